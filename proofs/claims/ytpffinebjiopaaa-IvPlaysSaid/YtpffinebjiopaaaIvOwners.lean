/-
Owners: rising, each once; what the document's Sorted makes of a list. (This session's own text.)
-/
import Derived.Test.YtpffinebjiopaaaIvMore
set_option linter.unusedVariables false
set_option linter.unusedSimpArgs false
namespace Go.GV.Ytpffinebjiopaaa
open Go.Proofs
/-! ### Lists that rise -/
abbrev rises (l : List Int) : Prop := l.Pairwise (· < ·)
theorem rises_uniq : ∀ {a b : List Int}, rises a → rises b → (∀ x, x ∈ a ↔ x ∈ b) → a = b
  | [], [], _, _, _ => rfl
  | [], y :: b, _, _, h => by have := (h y).2 List.mem_cons_self; cases this
  | x :: a, [], _, _, h => by have := (h x).1 List.mem_cons_self; cases this
  | x :: a, y :: b, ha, hb, h => by
    have ha := List.pairwise_cons.1 ha
    have hb := List.pairwise_cons.1 hb
    have e : x = y := by
      have h1 := (h x).1 List.mem_cons_self
      have h2 := (h y).2 List.mem_cons_self
      rcases List.mem_cons.1 h1 with h1 | h1
      · exact h1
      · rcases List.mem_cons.1 h2 with h2 | h2
        · exact h2.symm
        · have := hb.1 x h1; have := ha.1 y h2; omega
    subst e
    rw [rises_uniq ha.2 hb.2 fun z => ?_]
    have h3 := h z
    simp only [List.mem_cons] at h3
    constructor
    · intro hz
      rcases h3.1 (.inr hz) with h4 | h4
      · have := ha.1 z hz; omega
      · exact h4
    · intro hz
      rcases h3.2 (.inr hz) with h4 | h4
      · have := hb.1 z hz; omega
      · exact h4
/-! ### slices.Compact -/
def dd : Int → List Int → List Int
  | _, [] => []
  | p, a :: l => if a = p then dd a l else a :: dd a l
theorem dd_mem : ∀ (l : List Int) (p x : Int), x ∈ dd p l ∨ x = p ↔ x ∈ l ∨ x = p
  | [], p, x => by simp [dd]
  | a :: l, p, x => by
    unfold dd
    have ih := dd_mem l a x
    by_cases h : a = p
    · subst h
      rw [if_pos rfl, ih, List.mem_cons]
      constructor
      · rintro (h | h)
        · exact .inl (.inr h)
        · exact .inr h
      · rintro ((h | h) | h)
        · exact .inr h
        · exact .inl h
        · exact .inr h
    · rw [if_neg h, List.mem_cons, List.mem_cons]
      constructor
      · rintro ((h1 | h1) | h1)
        · exact .inl (.inl h1)
        · rcases ih.1 (.inl h1) with h2 | h2
          · exact .inl (.inr h2)
          · exact .inl (.inl h2)
        · exact .inr h1
      · rintro ((h1 | h1) | h1)
        · exact .inl (.inl h1)
        · rcases ih.2 (.inl h1) with h2 | h2
          · exact .inl (.inr h2)
          · exact .inl (.inl h2)
        · exact .inr h1
theorem dd_rises : ∀ (l : List Int) (p : Int), (p :: l).Pairwise (· ≤ ·) → rises (p :: dd p l)
  | [], p, _ => List.pairwise_singleton _ _
  | a :: l, p, h => by
    unfold dd
    rw [List.pairwise_cons] at h
    have ih := dd_rises l a h.2
    by_cases he : a = p
    · subst he; rw [if_pos rfl]; exact ih
    · rw [if_neg he]
      have hlt : p < a := by have := h.1 a List.mem_cons_self; omega
      refine List.pairwise_cons.2 ⟨fun b hb => ?_, ih⟩
      rcases List.mem_cons.1 hb with rfl | hb
      · exact hlt
      · have := (List.pairwise_cons.1 ih).1 b hb; omega
def dds : List Int → List Int
  | [] => []
  | a :: l => a :: dd a l
theorem comp_l3 (N : Nat) (hN : N ≤ 1000000) (b : Nat) : ∀ (k i q : Nat) (y : List Int), y.length = N → N - (b + q) = k → 1 ≤ q → i < b + q → b + q ≤ N →
    slices_Compact_int_int.l3 i b q y = some (y.take i ++ dd (y.getD (b + q - 1) 0) (y.drop (b + q)), ()) := by
  intro k
  induction k with
  | zero =>
    intro i q y hy hk hq hi hb
    have e : b + q = y.length := by omega
    have e2 : (y.take i ++ List.replicate (y.length - i) 0).take i = y.take i := by
      rw [List.take_append_of_le_length (by rw [List.length_take]; omega), List.take_take, Nat.min_self]
    rw [slices_Compact_int_int.l3_eq, e, List.drop_length]
    simp (disch := omega) only [dp, dn, decide_true, decide_false, cond_true, cond_false, Bool.not_true, Bool.not_false, Bool.true_and, Bool.false_and, Bool.and_true, Bool.and_false, Bool.true_or, Bool.false_or, Bool.or_true, Bool.or_false, wr, Option.bind_some, tn_add, tn_add1, tn_sub1, tn_0, tn_1, Int.toNat_natCast, List.length_append, List.length_take, List.length_replicate, e2, slices_Compact_int_int.l4_eq, dd, List.append_nil]
  | succ k ih =>
    intro i q y hy hk hq hi hb
    have hlt : b + q < y.length := by omega
    have w1 : IntKind.i64.wrap ((q : Int) - 1) = ((q - 1 : Nat) : Int) := wr_sub1 (by omega) (by omega)
    have w2 : ((b : Int) + ((q - 1 : Nat) : Int)).toNat = b + q - 1 := by omega
    have e1 : ((q : Int) < ((y.length - b : Nat) : Int)) := by omega
    rw [slices_Compact_int_int.l3_eq, drop_getD' 0 hlt]
    simp (disch := omega) only [dp, dn, decide_true, decide_false, cond_true, cond_false, Bool.not_true, Bool.not_false, Bool.true_and, Bool.false_and, Bool.and_true, Bool.and_false, Bool.true_or, Bool.false_or, Bool.or_true, Bool.or_false, wr, Option.bind_some, tn_add, tn_add1, tn_sub1, tn_0, tn_1, Int.toNat_natCast, w1, w2, e1, List.length_drop, dd]
    by_cases hc : y.getD (b + q) 0 = y.getD (b + q - 1) 0
    · simp (disch := omega) only [dp, dn, decide_true, decide_false, cond_true, cond_false, Bool.not_true, Bool.not_false, Bool.true_and, Bool.false_and, Bool.and_true, Bool.and_false, Bool.true_or, Bool.false_or, Bool.or_true, Bool.or_false, wr, Option.bind_some, tn_add, tn_add1, tn_sub1, tn_0, tn_1, Int.toNat_natCast, if_pos hc]
      have := ih i (q + 1) y hy (by omega) (by omega) (by omega) (by omega)
      rw [show b + (q + 1) - 1 = b + q by omega, show b + (q + 1) = b + q + 1 by omega] at this
      exact this
    · simp (disch := omega) only [dp, dn, decide_true, decide_false, cond_true, cond_false, Bool.not_true, Bool.not_false, Bool.true_and, Bool.false_and, Bool.and_true, Bool.and_false, Bool.true_or, Bool.false_or, Bool.or_true, Bool.or_false, wr, Option.bind_some, tn_add, tn_add1, tn_sub1, tn_0, tn_1, Int.toNat_natCast, if_neg hc]
      have := ih (i + 1) (q + 1) (y.set i (y.getD (b + q) 0)) (by simp [hy]) (by omega) (by omega) (by omega) (by omega)
      refine this.trans ?_
      have g1 : (y.set i (y.getD (b + q) 0)).getD (b + (q + 1) - 1) 0 = y.getD (b + q) 0 := by
        rw [show b + (q + 1) - 1 = b + q by omega, List.getD_eq_getElem?_getD, List.getD_eq_getElem?_getD, List.getElem?_set]
        by_cases h : i = b + q
        · omega
        · rw [if_neg h]
      have g2 : (y.set i (y.getD (b + q) 0)).getD i 0 = y.getD (b + q) 0 := by rw [getD_eq 0 (show i < (y.set i (y.getD (b + q) 0)).length by simp; omega)]; simp
      rw [g1, take_getD' 0 (show i < (y.set i (y.getD (b + q) 0)).length by simp; omega), List.drop_set_of_lt (by omega), List.take_set_of_le (Nat.le_refl i), g2, show b + (q + 1) = b + q + 1 by omega]
      simp
theorem comp_l2 (y : List Int) (hN : y.length ≤ 1000000) : ∀ (k q : Nat), y.length - q = k → 1 ≤ q → q ≤ y.length →
    slices_Compact_int_int.l2 q y = some (y.take q ++ dd (y.getD (q - 1) 0) (y.drop q), ()) := by
  intro k
  induction k with
  | zero =>
    intro q hk hq hq2
    have e : q = y.length := by omega
    subst e
    rw [slices_Compact_int_int.l2_eq]
    simp (disch := omega) only [dp, dn, decide_true, decide_false, cond_true, cond_false, Bool.not_true, Bool.not_false, Bool.true_and, Bool.false_and, Bool.and_true, Bool.and_false, Bool.true_or, Bool.false_or, Bool.or_true, Bool.or_false, wr, Option.bind_some, tn_add, tn_add1, tn_sub1, tn_0, tn_1, Int.toNat_natCast, slices_Compact_int_int.l5_eq, List.drop_length, List.take_length, dd, List.append_nil]
  | succ k ih =>
    intro q hk hq hq2
    have hlt : q < y.length := by omega
    have w1 : IntKind.i64.wrap ((q : Int) - 1) = ((q - 1 : Nat) : Int) := wr_sub1 (by omega) (by omega)
    rw [slices_Compact_int_int.l2_eq, drop_getD' 0 hlt]
    simp (disch := omega) only [dp, dn, decide_true, decide_false, cond_true, cond_false, Bool.not_true, Bool.not_false, Bool.true_and, Bool.false_and, Bool.and_true, Bool.and_false, Bool.true_or, Bool.false_or, Bool.or_true, Bool.or_false, wr, Option.bind_some, tn_add, tn_add1, tn_sub1, tn_0, tn_1, Int.toNat_natCast, w1, dd]
    by_cases hc : y.getD q 0 = y.getD (q - 1) 0
    · simp (disch := omega) only [dp, dn, decide_true, decide_false, cond_true, cond_false, Bool.not_true, Bool.not_false, Bool.true_and, Bool.false_and, Bool.and_true, Bool.and_false, Bool.true_or, Bool.false_or, Bool.or_true, Bool.or_false, wr, Option.bind_some, tn_add, tn_add1, tn_sub1, tn_0, tn_1, Int.toNat_natCast, if_pos hc]
      have := comp_l3 y.length hN q _ q 1 y rfl rfl (Nat.le_refl _) (by omega) (by omega)
      rw [show q + 1 - 1 = q by omega] at this
      exact this
    · simp (disch := omega) only [dp, dn, decide_true, decide_false, cond_true, cond_false, Bool.not_true, Bool.not_false, Bool.true_and, Bool.false_and, Bool.and_true, Bool.and_false, Bool.true_or, Bool.false_or, Bool.or_true, Bool.or_false, wr, Option.bind_some, tn_add, tn_add1, tn_sub1, tn_0, tn_1, Int.toNat_natCast, if_neg hc]
      have := ih (q + 1) (by omega) (by omega) (by omega)
      rw [show q + 1 - 1 = q by omega, take_getD' 0 hlt] at this
      refine Eq.trans this ?_
      simp
theorem compact_spec (y : List Int) (hN : y.length ≤ 1000000) : slices_Compact_int_int.f y = some (dds y, ()) := by
  rw [slices_Compact_int_int.f_eq]
  cases y with
  | nil => simp (disch := omega) only [dp, dn, decide_true, decide_false, cond_true, cond_false, Bool.not_true, Bool.not_false, Bool.true_and, Bool.false_and, Bool.and_true, Bool.and_false, Bool.true_or, Bool.false_or, Bool.or_true, Bool.or_false, wr, Option.bind_some, tn_add, tn_add1, tn_sub1, tn_0, tn_1, Int.toNat_natCast, List.length_nil, Int.natCast_zero, slices_Compact_int_int.l1_eq]; rfl
  | cons a l =>
    by_cases h : l = []
    · subst h
      simp (disch := omega) only [dp, dn, decide_true, decide_false, cond_true, cond_false, Bool.not_true, Bool.not_false, Bool.true_and, Bool.false_and, Bool.and_true, Bool.and_false, Bool.true_or, Bool.false_or, Bool.or_true, Bool.or_false, wr, Option.bind_some, tn_add, tn_add1, tn_sub1, tn_0, tn_1, Int.toNat_natCast, List.length_cons, List.length_nil, slices_Compact_int_int.l1_eq]
      rfl
    · have h1 : 0 < l.length := List.length_pos_iff.2 h
      have := comp_l2 (a :: l) hN _ 1 rfl (Nat.le_refl _) (by simp)
      simp (disch := omega) only [dp, dn, decide_true, decide_false, cond_true, cond_false, Bool.not_true, Bool.not_false, Bool.true_and, Bool.false_and, Bool.and_true, Bool.and_false, Bool.true_or, Bool.false_or, Bool.or_true, Bool.or_false, wr, Option.bind_some, tn_add, tn_add1, tn_sub1, tn_0, tn_1, Int.toNat_natCast, List.length_cons]
      refine Eq.trans this ?_
      rfl
/-! ### Owners -/
def isOw (l : List Tg) (q : List Int) : Prop := rises q ∧ ∀ x, x ∈ q ↔ ∃ t ∈ l, t.2.1 = x
theorem own_l1 (l : List Tg) (hl : l.length ≤ 1000000) : ∀ (k i : Nat) (y : List Int), l.length - i = k → i ≤ l.length → y.length ≤ i →
    iv_Set_Owners.l1 l.length i l y = iv_Set_Owners.l1 l.length l.length l (y ++ (l.drop i).map fun t => t.2.1) := by
  have hlim : limit = 17179869184 := rfl
  intro k
  induction k with
  | zero =>
    intro i y hk hi hy
    have e : i = l.length := by omega
    subst e
    simp
  | succ k ih =>
    intro i y hk hi hy
    have hlt : i < l.length := by omega
    rw [iv_Set_Owners.l1_eq, drop_getD' zT hlt]
    simp (disch := omega) only [dp, dn, decide_true, decide_false, cond_true, cond_false, Bool.not_true, Bool.not_false, Bool.true_and, Bool.false_and, Bool.and_true, Bool.and_false, Bool.true_or, Bool.false_or, Bool.or_true, Bool.or_false, wr, Option.bind_some, tn_add, tn_add1, tn_sub1, tn_0, tn_1, Int.toNat_natCast, List.length_singleton, hlim]
    exact (ih (i + 1) (y ++ [(l.getD i zT).2.1]) (by omega) (by omega) (by simp; omega)).trans (by simp)
theorem Owners_spec (l : List Tg) (hl : l.length ≤ 1000000) : ∃ q, iv_Set_Owners.f (l, ()) = some (q, (l, ()), ()) ∧ isOw l q ∧ q.length ≤ l.length := by
  have h1 := own_l1 l hl _ 0 [] rfl (Nat.zero_le _) (Nat.le_refl _)
  rw [List.drop_zero, List.nil_append, Int.natCast_zero] at h1
  generalize hm : (l.map fun t => t.2.1) = m at h1
  have hml : m.length = l.length := by rw [← hm]; simp
  have hs : slices_Sort_int_int.f m = some (m.mergeSort fun x y => decide (x ≤ y), ()) := by
    rw [slices_Sort_int_int.f_sem]
    show (bif decide (List.length m ≤ limit) then some (List.mergeSort (α := Int) m (fun x y => decide (x ≤ y)), ()) else none) = _
    rw [dp (by simp only [limit]; omega), cond_true]
  have hp : (m.mergeSort fun x y => decide (x ≤ y)).Perm m := List.mergeSort_perm m _
  have hso : (m.mergeSort fun x y => decide (x ≤ y)).Pairwise (· ≤ ·) := by
    have := List.pairwise_mergeSort (le := fun x y : Int => decide (x ≤ y)) (fun a b c h1 h2 => by simp at *; omega) (fun a b => by simp; omega) m
    exact this.imp fun h => by simpa using h
  generalize m.mergeSort (fun x y => decide (x ≤ y)) = r at hs hp hso
  have hrl : r.length = l.length := by rw [hp.length_eq, hml]
  refine ⟨dds r, ?_, ⟨?_, fun x => ?_⟩, ?_⟩
  · rw [iv_Set_Owners.f_eq, h1, iv_Set_Owners.l1_eq]
    simp (disch := omega) only [dp, dn, decide_true, decide_false, cond_true, cond_false, Bool.not_true, Bool.not_false, Bool.true_and, Bool.false_and, Bool.and_true, Bool.and_false, Bool.true_or, Bool.false_or, Bool.or_true, Bool.or_false, wr, Option.bind_some, tn_add, tn_add1, tn_sub1, tn_0, tn_1, Int.toNat_natCast, hs, compact_spec r (show r.length ≤ 1000000 by omega)]
  · cases r with
    | nil => exact List.Pairwise.nil
    | cons a r => exact dd_rises r a hso
  · have e : x ∈ dds r ↔ x ∈ r := by
      cases r with
      | nil => exact Iff.rfl
      | cons a r =>
        show x ∈ a :: dd a r ↔ _
        rw [List.mem_cons, List.mem_cons]
        have := dd_mem r a x
        constructor
        · rintro (h | h)
          · exact .inl h
          · rcases this.1 (.inl h) with h | h
            · exact .inr h
            · exact .inl h
        · rintro (h | h)
          · exact .inl h
          · rcases this.2 (.inl h) with h | h
            · exact .inr h
            · exact .inl h
    rw [e, hp.mem_iff, ← hm, List.mem_map]
  · have hdd : ∀ (l : List Int) (p : Int), (dd p l).length ≤ l.length := by
      intro l
      induction l with
      | nil => intro p; exact Nat.le_refl _
      | cons a l ih =>
        intro p
        unfold dd
        have := ih a
        split <;> simp <;> omega
    rw [← hrl]
    cases r with
    | nil => exact Nat.le_refl _
    | cons a r => show (a :: dd a r).length ≤ _; simp [hdd]
/-! ### The document's words on lists -/
theorem vhas_spec (l : List Int) (hl : l.length ≤ 1000000) (x : Int) : vokref_Has.f l x = some (decide (x ∈ l), ()) := by
  have key : ∀ (k i : Nat), l.length - i = k → i ≤ l.length → vokref_Has.l1 l x i = some (decide (x ∈ l.drop i), ()) := by
    intro k
    induction k with
    | zero =>
      intro i hk hi
      have e : i = l.length := by omega
      subst e
      rw [vokref_Has.l1_eq]
      simp (disch := omega) only [dp, dn, decide_true, decide_false, cond_true, cond_false, Bool.not_true, Bool.not_false, Bool.true_and, Bool.false_and, Bool.and_true, Bool.and_false, Bool.true_or, Bool.false_or, Bool.or_true, Bool.or_false, wr, Option.bind_some, tn_add, tn_add1, tn_sub1, tn_0, tn_1, Int.toNat_natCast, List.drop_length]
      simp
    | succ k ih =>
      intro i hk hi
      have hlt : i < l.length := by omega
      rw [vokref_Has.l1_eq, drop_getD' 0 hlt]
      by_cases h : l.getD i 0 = x
      · simp (disch := omega) only [dp, dn, decide_true, decide_false, cond_true, cond_false, Bool.not_true, Bool.not_false, Bool.true_and, Bool.false_and, Bool.and_true, Bool.and_false, Bool.true_or, Bool.false_or, Bool.or_true, Bool.or_false, wr, Option.bind_some, tn_add, tn_add1, tn_sub1, tn_0, tn_1, Int.toNat_natCast]
        rw [h]
        simp
      · simp (disch := omega) only [dp, dn, decide_true, decide_false, cond_true, cond_false, Bool.not_true, Bool.not_false, Bool.true_and, Bool.false_and, Bool.and_true, Bool.and_false, Bool.true_or, Bool.false_or, Bool.or_true, Bool.or_false, wr, Option.bind_some, tn_add, tn_add1, tn_sub1, tn_0, tn_1, Int.toNat_natCast]
        refine (ih (i + 1) (by omega) (by omega)).trans ?_
        have e : x ∈ l.getD i 0 :: l.drop (i + 1) ↔ x ∈ l.drop (i + 1) := by
          rw [List.mem_cons]
          exact ⟨fun h1 => h1.elim (fun h1 => absurd h1.symm h) id, .inr⟩
        rw [decide_eq_decide.2 e]
  rw [vokref_Has.f_eq]
  have := key _ 0 rfl (Nat.zero_le _)
  rw [List.drop_zero] at this
  exact this
theorem ints_same (a : List Int) (ha : a.length ≤ 1000000) : vokref_Ints.f a a = some (true, ()) := by
  have key : ∀ (k i : Nat), a.length - i = k → i ≤ a.length → vokref_Ints.l1 a a i = some (true, ()) := by
    intro k
    induction k with
    | zero =>
      intro i hk hi
      rw [vokref_Ints.l1_eq]
      simp (disch := omega) only [dp, dn, decide_true, decide_false, cond_true, cond_false, Bool.not_true, Bool.not_false, Bool.true_and, Bool.false_and, Bool.and_true, Bool.and_false, Bool.true_or, Bool.false_or, Bool.or_true, Bool.or_false, wr, Option.bind_some, tn_add, tn_add1, tn_sub1, tn_0, tn_1, Int.toNat_natCast]
    | succ k ih =>
      intro i hk hi
      rw [vokref_Ints.l1_eq]
      simp (disch := omega) only [dp, dn, decide_true, decide_false, cond_true, cond_false, Bool.not_true, Bool.not_false, Bool.true_and, Bool.false_and, Bool.and_true, Bool.and_false, Bool.true_or, Bool.false_or, Bool.or_true, Bool.or_false, wr, Option.bind_some, tn_add, tn_add1, tn_sub1, tn_0, tn_1, Int.toNat_natCast]
      exact ih (i + 1) (by omega) (by omega)
  rw [vokref_Ints.f_eq]
  have := key _ 0 rfl (Nat.zero_le _)
  rw [show ((0 : Nat) : Int) = 0 from rfl] at this
  simp (disch := omega) only [dp, dn, decide_true, decide_false, cond_true, cond_false, Bool.not_true, Bool.not_false, Bool.true_and, Bool.false_and, Bool.and_true, Bool.and_false, Bool.true_or, Bool.false_or, Bool.or_true, Bool.or_false, wr, Option.bind_some, tn_add, tn_add1, tn_sub1, tn_0, tn_1, Int.toNat_natCast, this]
theorem sorted_l2 (l : List Int) (i : Nat) (hi : i < l.length) (hl : l.length ≤ 1000000) (y : List Int) (hy : y.length ≤ 1000000) : ∀ (k q : Nat), y.length - q = k → q ≤ y.length → (∀ j, j < q → y.getD j 0 < l.getD i 0) →
    ∃ q' : Nat, q' ≤ y.length ∧ vokref_Sorted.l2 l i q y = vokref_Sorted.l4 l i q' y ∧ (∀ j, j < q' → y.getD j 0 < l.getD i 0) ∧ (q' < y.length → l.getD i 0 ≤ y.getD q' 0) := by
  intro k
  induction k with
  | zero =>
    intro q hk hq h
    refine ⟨q, hq, ?_, h, fun h => by omega⟩
    rw [vokref_Sorted.l2_eq]
    simp (disch := omega) only [dp, dn, decide_true, decide_false, cond_true, cond_false, Bool.not_true, Bool.not_false, Bool.true_and, Bool.false_and, Bool.and_true, Bool.and_false, Bool.true_or, Bool.false_or, Bool.or_true, Bool.or_false, wr, Option.bind_some, tn_add, tn_add1, tn_sub1, tn_0, tn_1, Int.toNat_natCast, vokref_Sorted.l3_eq]
  | succ k ih =>
    intro q hk hq h
    rw [vokref_Sorted.l2_eq]
    by_cases hc : y.getD q 0 < l.getD i 0
    · simp (disch := omega) only [dp, dn, decide_true, decide_false, cond_true, cond_false, Bool.not_true, Bool.not_false, Bool.true_and, Bool.false_and, Bool.and_true, Bool.and_false, Bool.true_or, Bool.false_or, Bool.or_true, Bool.or_false, wr, Option.bind_some, tn_add, tn_add1, tn_sub1, tn_0, tn_1, Int.toNat_natCast, vokref_Sorted.l3_eq]
      refine ih (q + 1) (by omega) (by omega) fun j hj => ?_
      by_cases e : j = q
      · subst e; exact hc
      · exact h j (by omega)
    · simp (disch := omega) only [dp, dn, decide_true, decide_false, cond_true, cond_false, Bool.not_true, Bool.not_false, Bool.true_and, Bool.false_and, Bool.and_true, Bool.and_false, Bool.true_or, Bool.false_or, Bool.or_true, Bool.or_false, wr, Option.bind_some, tn_add, tn_add1, tn_sub1, tn_0, tn_1, Int.toNat_natCast, vokref_Sorted.l3_eq]
      exact ⟨q, hq, rfl, h, fun _ => by omega⟩
theorem sorted_l1 (l : List Int) (hl : l.length ≤ 1000000) : ∀ (k i : Nat) (y : List Int), l.length - i = k → i ≤ l.length → y.length ≤ i → rises y →
    ∃ r, vokref_Sorted.l1 l i y = some (r, ()) ∧ rises r ∧ ∀ x, x ∈ r ↔ x ∈ y ∨ x ∈ l.drop i := by
  have hlim : limit = 17179869184 := rfl
  intro k
  induction k with
  | zero =>
    intro i y hk hi hy hr
    have e : i = l.length := by omega
    subst e
    rw [vokref_Sorted.l1_eq]
    simp (disch := omega) only [dp, dn, decide_true, decide_false, cond_true, cond_false, Bool.not_true, Bool.not_false, Bool.true_and, Bool.false_and, Bool.and_true, Bool.and_false, Bool.true_or, Bool.false_or, Bool.or_true, Bool.or_false, wr, Option.bind_some, tn_add, tn_add1, tn_sub1, tn_0, tn_1, Int.toNat_natCast]
    exact ⟨y, rfl, hr, fun x => by simp⟩
  | succ k ih =>
    intro i y hk hi hy hr
    have hlt : i < l.length := by omega
    obtain ⟨q, h1, h2, h3, h4⟩ := sorted_l2 l i hlt hl y (by omega) _ 0 rfl (Nat.zero_le _) fun j hj => by omega
    rw [vokref_Sorted.l1_eq]
    rw [Int.natCast_zero] at h2
    simp (disch := omega) only [dp, dn, decide_true, decide_false, cond_true, cond_false, Bool.not_true, Bool.not_false, Bool.true_and, Bool.false_and, Bool.and_true, Bool.and_false, Bool.true_or, Bool.false_or, Bool.or_true, Bool.or_false, wr, Option.bind_some, tn_add, tn_add1, tn_sub1, tn_0, tn_1, Int.toNat_natCast, h2]
    rw [drop_getD' 0 hlt, vokref_Sorted.l4_eq]
    have ins : (q < y.length → l.getD i 0 < y.getD q 0) → ∃ r, vokref_Sorted.l6 l i q y = some (r, ()) ∧ rises r ∧ ∀ x, x ∈ r ↔ x ∈ y ∨ x ∈ l.getD i 0 :: l.drop (i + 1) := by
      intro h5
      have hp := ins_perm y (l.getD i 0) q
      have hs : rises (y.take q ++ ([l.getD i 0] ++ y.drop q)) := by
        refine ins_sorted hr (fun a ha => ?_) fun a ha => ?_
        · obtain ⟨j, hj, e⟩ := List.getElem_of_mem ha
          rw [List.length_take] at hj
          rw [List.getElem_take] at e
          have := h3 j (by omega)
          rw [getD_eq 0 (by omega), e] at this
          exact this
        · obtain ⟨j, hj, e⟩ := List.getElem_of_mem ha
          rw [List.length_drop] at hj
          rw [List.getElem_drop] at e
          have a1 := h5 (by omega)
          rw [getD_eq 0 (show q < y.length by omega)] at a1
          by_cases hj0 : j = 0
          · subst hj0
            simp only [Nat.add_zero] at e
            rw [← e]; exact a1
          · have := List.pairwise_iff_getElem.1 hr q (q + j) (by omega) (by omega) (by omega)
            rw [e] at this
            omega
      obtain ⟨r, b1, b2, b3⟩ := ih (i + 1) _ (by omega) (by omega) (by rw [hp.length_eq]; simp; omega) hs
      refine ⟨r, ?_, b2, fun x => ?_⟩
      · rw [vokref_Sorted.l6_eq]
        simp (disch := omega) only [dp, dn, decide_true, decide_false, cond_true, cond_false, Bool.not_true, Bool.not_false, Bool.true_and, Bool.false_and, Bool.and_true, Bool.and_false, Bool.true_or, Bool.false_or, Bool.or_true, Bool.or_false, wr, Option.bind_some, tn_add, tn_add1, tn_sub1, tn_0, tn_1, Int.toNat_natCast, List.length_singleton, List.length_append, List.length_take, List.length_drop, hlim]
        exact b1
      · rw [b3, hp.mem_iff, List.mem_cons, List.mem_cons]
        constructor
        · rintro ((h | h) | h)
          · exact .inr (.inl h)
          · exact .inl h
          · exact .inr (.inr h)
        · rintro (h | h | h)
          · exact .inl (.inr h)
          · exact .inl (.inl h)
          · exact .inr h
    by_cases hq : q < y.length
    · by_cases he : y.getD q 0 = l.getD i 0
      · simp (disch := omega) only [dp, dn, decide_true, decide_false, cond_true, cond_false, Bool.not_true, Bool.not_false, Bool.true_and, Bool.false_and, Bool.and_true, Bool.and_false, Bool.true_or, Bool.false_or, Bool.or_true, Bool.or_false, wr, Option.bind_some, tn_add, tn_add1, tn_sub1, tn_0, tn_1, Int.toNat_natCast, vokref_Sorted.l5_eq]
        obtain ⟨r, b1, b2, b3⟩ := ih (i + 1) y (by omega) (by omega) (by omega) hr
        refine ⟨r, b1, b2, fun x => ?_⟩
        have hm : l.getD i 0 ∈ y := by rw [← he]; exact getD_mem' 0 hq
        rw [b3, List.mem_cons]
        constructor
        · rintro (h | h)
          · exact .inl h
          · exact .inr (.inr h)
        · rintro (h | h | h)
          · exact .inl h
          · exact .inl (h ▸ hm)
          · exact .inr h
      · simp (disch := omega) only [dp, dn, decide_true, decide_false, cond_true, cond_false, Bool.not_true, Bool.not_false, Bool.true_and, Bool.false_and, Bool.and_true, Bool.and_false, Bool.true_or, Bool.false_or, Bool.or_true, Bool.or_false, wr, Option.bind_some, tn_add, tn_add1, tn_sub1, tn_0, tn_1, Int.toNat_natCast, vokref_Sorted.l5_eq]
        exact ins fun h => by have := h4 h; omega
    · simp (disch := omega) only [dp, dn, decide_true, decide_false, cond_true, cond_false, Bool.not_true, Bool.not_false, Bool.true_and, Bool.false_and, Bool.and_true, Bool.and_false, Bool.true_or, Bool.false_or, Bool.or_true, Bool.or_false, wr, Option.bind_some, tn_add, tn_add1, tn_sub1, tn_0, tn_1, Int.toNat_natCast, vokref_Sorted.l5_eq]
      exact ins fun h => by omega
theorem Sorted_spec (l : List Int) (hl : l.length ≤ 1000000) : ∃ r, vokref_Sorted.f l = some (r, ()) ∧ rises r ∧ ∀ x, x ∈ r ↔ x ∈ l := by
  obtain ⟨r, h1, h2, h3⟩ := sorted_l1 l hl _ 0 [] rfl (Nat.zero_le _) (Nat.le_refl _) List.Pairwise.nil
  refine ⟨r, ?_, h2, fun x => by rw [h3]; simp⟩
  rw [vokref_Sorted.f_eq]
  exact h1
end Go.GV.Ytpffinebjiopaaa
