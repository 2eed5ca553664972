/-
What the calls on iv.Set come to. (This session's own text.)
-/
import Derived.Test.YtpffinebjiopaaaIvNorm
set_option linter.unusedVariables false
set_option linter.unusedSimpArgs false
namespace Go.GV.Ytpffinebjiopaaa
open Go.Proofs
abbrev zT : Tg := ((0, 0, ()), 0, ())
/-- The spans of a set: in order, apart; those of one owner do not touch. -/
structure Inv (l : List Tg) : Prop where
  pw : l.Pairwise (fun a b => a.1.2.1 ≤ b.1.1 ∧ (a.2.1 = b.2.1 → a.1.2.1 < b.1.1))
  ne : ∀ x ∈ l, x.1.1 < x.1.2.1 ∧ 1 ≤ x.2.1
theorem Inv.nil : Inv [] := ⟨List.Pairwise.nil, fun _ h => by cases h⟩
theorem Inv.sub {l m : List Tg} (h : Inv l) (hs : m.Sublist l) : Inv m := ⟨h.pw.sublist hs, fun x hx => h.ne x (hs.subset hx)⟩
theorem Inv.lt {l : List Tg} (h : Inv l) : l.Pairwise (fun a b => a.1.1 < b.1.1) := by
  rw [List.pairwise_iff_getElem]
  intro i j hi hj hij
  have h1 := (List.pairwise_iff_getElem.1 h.pw i j hi hj hij).1
  have h2 := (h.ne l[i] (List.getElem_mem hi)).1
  omega
theorem Inv.le {l : List Tg} (h : Inv l) : l.Pairwise (fun a b => a.1.1 ≤ b.1.1) := h.lt.imp fun h => Int.le_of_lt h
theorem Inv.get {l : List Tg} (h : Inv l) {i j : Nat} (hij : i < j) (hj : j < l.length) : (l.getD i zT).1.2.1 ≤ (l.getD j zT).1.1 := by
  rw [getD_eq zT hj, getD_eq zT (by omega)]
  exact (List.pairwise_iff_getElem.1 h.pw i j (by omega) hj hij).1
theorem Inv.nz {l : List Tg} (h : Inv l) {i : Nat} (hi : i < l.length) : (l.getD i zT).1.1 < (l.getD i zT).1.2.1 := (h.ne _ (getD_mem' zT hi)).1
theorem find_drop {α : Type} {l : List α} {p : α → Bool} {i : Nat} (z : α) (hi : i ≤ l.length) (h : ∀ j, j < i → p (l.getD j z) = false) : l.find? p = (l.drop i).find? p := by
  induction i with
  | zero => rfl
  | succ i ih =>
    rw [ih (by omega) fun j hj => h j (by omega), drop_getD' z (show i < l.length by omega), List.find?_cons, h i (by omega)]
/-! ### The search by halves -/
theorem half {a b : Nat} (h : a + b < 4611686018427387904) : IntKind.i64.wrap (shrI .u64 (IntKind.u64.wrap (IntKind.i64.wrap ((a : Int) + (b : Int)))) 1) = (((a + b) / 2 : Nat) : Int) := by
  rw [wr (x := (a : Int) + (b : Int)) (by omega) (by omega), Go.IntWalk.u64_in ((a : Int) + (b : Int)) (by omega)]
  have e : shrI .u64 ((a : Int) + (b : Int)) 1 = (((a + b) / 2 : Nat) : Int) := by
    show Int.fdiv ((a : Int) + (b : Int)) (2 ^ (min (1 : Int).toNat 64)) = _
    rw [show min (1 : Int).toNat 64 = 1 from rfl, show (2 : Int) ^ 1 = 2 from rfl, Int.fdiv_eq_ediv_of_nonneg _ (by decide)]
    omega
  rw [e, wr (by omega) (by omega)]
theorem bsearch {l : List Tg} (hl : l.length ≤ 1000000) (lo : Int) : ∀ (k a b : Nat), b - a ≤ k → a ≤ b → b ≤ l.length → (∀ j, j < a → (l.getD j zT).1.2.1 ≤ lo) → (∀ i j, i < j → j < l.length → (l.getD i zT).1.2.1 < (l.getD j zT).1.2.1) → (∀ j, b ≤ j → j < l.length → lo < (l.getD j zT).1.2.1) →
    ∃ (i : Nat) (f : Bool), slices_BinarySearchFunc_iv_Tagged_iv_Tagged_int.l1 l lo (l.length : Int) a b = some ((i : Int), f, (), ()) ∧ i ≤ l.length ∧ (∀ j, j < i → (l.getD j zT).1.2.1 ≤ lo) ∧ (∀ j, i ≤ j → j < l.length → lo < (l.getD j zT).1.2.1) := by
  have done : ∀ a : Nat, a ≤ l.length → (∀ j, j < a → (l.getD j zT).1.2.1 ≤ lo) → (∀ j, a ≤ j → j < l.length → lo < (l.getD j zT).1.2.1) → ∃ (i : Nat) (f : Bool), slices_BinarySearchFunc_iv_Tagged_iv_Tagged_int.l1 l lo (l.length : Int) a a = some ((i : Int), f, (), ()) ∧ i ≤ l.length ∧ (∀ j, j < i → (l.getD j zT).1.2.1 ≤ lo) ∧ (∀ j, i ≤ j → j < l.length → lo < (l.getD j zT).1.2.1) := by
    intro a ha h1 h3
    rw [slices_BinarySearchFunc_iv_Tagged_iv_Tagged_int.l1_eq]
    by_cases hc : a < l.length
    · simp (disch := omega) only [dp, dn, decide_true, decide_false, cond_true, cond_false, Bool.not_true, Bool.not_false, Bool.true_and, Bool.false_and, Bool.and_true, Bool.and_false, Bool.true_or, Bool.false_or, Bool.or_true, Bool.or_false, wr, Option.bind_some, tn_add, tn_add1, tn_sub1, tn_0, tn_1, Int.toNat_natCast, iv_Set_meets_1.f_eq]
      by_cases hm : (l.getD a zT).1.2.1 ≤ lo
      · simp (disch := omega) only [dp, dn, decide_true, decide_false, cond_true, cond_false, Bool.not_true, Bool.not_false, Bool.true_and, Bool.false_and, Bool.and_true, Bool.and_false, Bool.true_or, Bool.false_or, Bool.or_true, Bool.or_false, wr, Option.bind_some, tn_add, tn_add1, tn_sub1, tn_0, tn_1, Int.toNat_natCast]
        exact ⟨a, _, rfl, ha, h1, h3⟩
      · simp (disch := omega) only [dp, dn, decide_true, decide_false, cond_true, cond_false, Bool.not_true, Bool.not_false, Bool.true_and, Bool.false_and, Bool.and_true, Bool.and_false, Bool.true_or, Bool.false_or, Bool.or_true, Bool.or_false, wr, Option.bind_some, tn_add, tn_add1, tn_sub1, tn_0, tn_1, Int.toNat_natCast]
        exact ⟨a, _, rfl, ha, h1, h3⟩
    · simp (disch := omega) only [dp, dn, decide_true, decide_false, cond_true, cond_false, Bool.not_true, Bool.not_false, Bool.true_and, Bool.false_and, Bool.and_true, Bool.and_false, Bool.true_or, Bool.false_or, Bool.or_true, Bool.or_false, wr, Option.bind_some, tn_add, tn_add1, tn_sub1, tn_0, tn_1, Int.toNat_natCast]
      exact ⟨a, _, rfl, ha, h1, h3⟩
  intro k
  induction k with
  | zero =>
    intro a b hk hab hb h1 h2 h3
    have e : a = b := by omega
    subst e
    exact done a hb h1 h3
  | succ k ih =>
    intro a b hk hab hb h1 h2 h3
    by_cases he : a = b
    · subst he; exact done a hb h1 h3
    · rw [slices_BinarySearchFunc_iv_Tagged_iv_Tagged_int.l1_eq, half (by omega)]
      have hm1 : a ≤ (a + b) / 2 := by omega
      have hm2 : (a + b) / 2 < b := by omega
      generalize (a + b) / 2 = m at hm1 hm2
      simp (disch := omega) only [dp, dn, decide_true, decide_false, cond_true, cond_false, Bool.not_true, Bool.not_false, Bool.true_and, Bool.false_and, Bool.and_true, Bool.and_false, Bool.true_or, Bool.false_or, Bool.or_true, Bool.or_false, wr, Option.bind_some, tn_add, tn_add1, tn_sub1, tn_0, tn_1, Int.toNat_natCast, iv_Set_meets_1.f_eq]
      by_cases hm : (l.getD m zT).1.2.1 ≤ lo
      · simp (disch := omega) only [dp, dn, decide_true, decide_false, cond_true, cond_false, Bool.not_true, Bool.not_false, Bool.true_and, Bool.false_and, Bool.and_true, Bool.and_false, Bool.true_or, Bool.false_or, Bool.or_true, Bool.or_false, wr, Option.bind_some, tn_add, tn_add1, tn_sub1, tn_0, tn_1, Int.toNat_natCast]
        refine ih (m + 1) b (by omega) (by omega) hb (fun j hj => ?_) h2 h3
        by_cases hjm : j = m
        · subst hjm; exact hm
        · have := h2 j m (by omega) (by omega); omega
      · simp (disch := omega) only [dp, dn, decide_true, decide_false, cond_true, cond_false, Bool.not_true, Bool.not_false, Bool.true_and, Bool.false_and, Bool.and_true, Bool.and_false, Bool.true_or, Bool.false_or, Bool.or_true, Bool.or_false, wr, Option.bind_some, tn_add, tn_add1, tn_sub1, tn_0, tn_1, Int.toNat_natCast]
        refine ih a m (by omega) hm1 (by omega) h1 h2 fun j hj1 hj2 => ?_
        by_cases hjm : j = m
        · subst hjm; omega
        · have := h2 m j (by omega) hj2; omega
/-! ### meets, clash, Clash -/
def hit (x : Sp) (but : Int) (t : Tg) : Bool := decide (t.2.1 ≠ but) && (decide (t.1.1 < x.2.1) && decide (x.1 < t.1.2.1))
def told (o : Option Tg) : Tg × Bool := match o with | some t => (t, true) | none => (zT, false)
theorem scan_spec {l : List Tg} (hi : Inv l) (hl : l.length ≤ 1000000) (x : Sp) (but : Int) (c1 c2 c3 : Int) : ∀ (k i : Nat), l.length - i = k → i ≤ l.length → (∀ j, i ≤ j → j < l.length → x.1 < (l.getD j zT).1.2.1) →
    iv_Set_meets.l1 but i l x.1 x.2.1 c1 c2 c3 = some ((told ((l.drop i).find? (hit x but))).1, (told ((l.drop i).find? (hit x but))).2, (l, ()), ()) := by
  intro k
  induction k with
  | zero =>
    intro i hk hi' h1
    have e : i = l.length := by omega
    subst e
    rw [iv_Set_meets.l1_eq]
    simp (disch := omega) only [dp, dn, decide_true, decide_false, cond_true, cond_false, Bool.not_true, Bool.not_false, Bool.true_and, Bool.false_and, Bool.and_true, Bool.and_false, Bool.true_or, Bool.false_or, Bool.or_true, Bool.or_false, wr, Option.bind_some, tn_add, tn_add1, tn_sub1, tn_0, tn_1, Int.toNat_natCast, iv_Set_meets.l2_eq, List.drop_length, List.find?_nil]
    rfl
  | succ k ih =>
    intro i hk hi' h1
    have hlt : i < l.length := by omega
    have hx := h1 i (Nat.le_refl _) hlt
    rw [iv_Set_meets.l1_eq, drop_getD' zT hlt, List.find?_cons]
    by_cases hc : (l.getD i zT).1.1 < x.2.1
    · simp (disch := omega) only [dp, dn, decide_true, decide_false, cond_true, cond_false, Bool.not_true, Bool.not_false, Bool.true_and, Bool.false_and, Bool.and_true, Bool.and_false, Bool.true_or, Bool.false_or, Bool.or_true, Bool.or_false, wr, Option.bind_some, tn_add, tn_add1, tn_sub1, tn_0, tn_1, Int.toNat_natCast, iv_Set_meets.l2_eq]
      by_cases ho : (l.getD i zT).2.1 = but
      · have hh : hit x but (l.getD i zT) = false := by unfold hit; simp (disch := omega) only [dp, dn, decide_true, decide_false, cond_true, cond_false, Bool.not_true, Bool.not_false, Bool.true_and, Bool.false_and, Bool.and_true, Bool.and_false, Bool.true_or, Bool.false_or, Bool.or_true, Bool.or_false, wr, Option.bind_some, tn_add, tn_add1, tn_sub1, tn_0, tn_1, Int.toNat_natCast, ne_eq, ho, not_true_eq_false]
        rw [hh]
        simp (disch := omega) only [dp, dn, decide_true, decide_false, cond_true, cond_false, Bool.not_true, Bool.not_false, Bool.true_and, Bool.false_and, Bool.and_true, Bool.and_false, Bool.true_or, Bool.false_or, Bool.or_true, Bool.or_false, wr, Option.bind_some, tn_add, tn_add1, tn_sub1, tn_0, tn_1, Int.toNat_natCast]
        exact ih (i + 1) (by omega) (by omega) fun j hj hj2 => h1 j (by omega) hj2
      · have hh : hit x but (l.getD i zT) = true := by unfold hit; rw [decide_eq_true ho]; simp (disch := omega) only [dp, dn, decide_true, decide_false, cond_true, cond_false, Bool.not_true, Bool.not_false, Bool.true_and, Bool.false_and, Bool.and_true, Bool.and_false, Bool.true_or, Bool.false_or, Bool.or_true, Bool.or_false, wr, Option.bind_some, tn_add, tn_add1, tn_sub1, tn_0, tn_1, Int.toNat_natCast]
        rw [hh, dn ho]
        simp (disch := omega) only [dp, dn, decide_true, decide_false, cond_true, cond_false, Bool.not_true, Bool.not_false, Bool.true_and, Bool.false_and, Bool.and_true, Bool.and_false, Bool.true_or, Bool.false_or, Bool.or_true, Bool.or_false, wr, Option.bind_some, tn_add, tn_add1, tn_sub1, tn_0, tn_1, Int.toNat_natCast, told]
    · simp (disch := omega) only [dp, dn, decide_true, decide_false, cond_true, cond_false, Bool.not_true, Bool.not_false, Bool.true_and, Bool.false_and, Bool.and_true, Bool.and_false, Bool.true_or, Bool.false_or, Bool.or_true, Bool.or_false, wr, Option.bind_some, tn_add, tn_add1, tn_sub1, tn_0, tn_1, Int.toNat_natCast, iv_Set_meets.l2_eq]
      have hh : hit x but (l.getD i zT) = false := by unfold hit; simp (disch := omega) only [dp, dn, decide_true, decide_false, cond_true, cond_false, Bool.not_true, Bool.not_false, Bool.true_and, Bool.false_and, Bool.and_true, Bool.and_false, Bool.true_or, Bool.false_or, Bool.or_true, Bool.or_false, wr, Option.bind_some, tn_add, tn_add1, tn_sub1, tn_0, tn_1, Int.toNat_natCast]
      rw [hh]
      have hn : (l.drop (i + 1)).find? (hit x but) = none := by
        rw [List.find?_eq_none]
        intro t ht
        obtain ⟨j, hj, e⟩ := List.getElem_of_mem ht
        rw [List.length_drop] at hj
        rw [List.getElem_drop] at e
        have h2 := hi.get (i := i) (j := i + 1 + j) (by omega) (by omega)
        have h3 := hi.nz hlt
        rw [getD_eq zT (show i + 1 + j < l.length by omega), e] at h2
        unfold hit
        rw [dn (p := t.1.1 < x.2.1) (by omega)]
        simp
      rw [hn]
      rfl
theorem meets_spec {l : List Tg} (hi : Inv l) (hl : l.length ≤ 1000000) (x : Sp) (but : Int) :
    iv_Set_meets.f (l, ()) x but = some ((told (l.find? (hit x but))).1, (told (l.find? (hit x but))).2, (l, ()), ()) := by
  have hmono : ∀ i j, i < j → j < l.length → (l.getD i zT).1.2.1 < (l.getD j zT).1.2.1 := fun i j hij hj => by have := hi.get hij hj; have := hi.nz hj; omega
  obtain ⟨i, f, h1, h2, h3, h4⟩ := bsearch hl x.1 l.length 0 l.length (by omega) (Nat.zero_le _) (Nat.le_refl _) (fun j hj => by omega) hmono (fun j hj hj2 => by omega)
  rw [iv_Set_meets.f_eq, slices_BinarySearchFunc_iv_Tagged_iv_Tagged_int.f_eq]
  rw [show ((0 : Nat) : Int) = 0 from rfl] at h1
  rw [h1, Option.bind_some, find_drop zT h2 fun j hj => ?_]
  · exact scan_spec hi hl x but 0 0 0 _ i rfl h2 h4
  · have := h3 j hj
    unfold hit
    rw [dn (p := x.1 < (l.getD j zT).1.2.1) (by omega)]
    simp
def clashP (l : List Tg) (n : List Sp) (but : Int) : Option Tg := n.findSome? fun x => l.find? (hit x but)
theorem clash_l1a {l : List Tg} (hi : Inv l) (hl : l.length ≤ 1000000) (n : List Sp) (hn : n.length ≤ 1000000) (but : Int) (c1 c2 c3 : Int) : ∀ (k i : Nat), n.length - i = k → i ≤ n.length →
    iv_Set_clash.l1a but n n.length i l c1 c2 c3 = some ((told (clashP l (n.drop i) but)).1, (told (clashP l (n.drop i) but)).2, (l, ()), ()) := by
  intro k
  induction k with
  | zero =>
    intro i hk hi'
    have e : i = n.length := by omega
    subst e
    rw [iv_Set_clash.l1a_eq]
    simp (disch := omega) only [dp, dn, decide_true, decide_false, cond_true, cond_false, Bool.not_true, Bool.not_false, Bool.true_and, Bool.false_and, Bool.and_true, Bool.and_false, Bool.true_or, Bool.false_or, Bool.or_true, Bool.or_false, wr, Option.bind_some, tn_add, tn_add1, tn_sub1, tn_0, tn_1, Int.toNat_natCast, List.drop_length]
    rfl
  | succ k ih =>
    intro i hk hi'
    have hlt : i < n.length := by omega
    rw [iv_Set_clash.l1a_eq, drop_getD' (0, 0, ()) hlt]
    simp (disch := omega) only [dp, dn, decide_true, decide_false, cond_true, cond_false, Bool.not_true, Bool.not_false, Bool.true_and, Bool.false_and, Bool.and_true, Bool.and_false, Bool.true_or, Bool.false_or, Bool.or_true, Bool.or_false, wr, Option.bind_some, tn_add, tn_add1, tn_sub1, tn_0, tn_1, Int.toNat_natCast, meets_spec hi hl]
    have e : ((n.getD i (0, 0, ())).1, (n.getD i (0, 0, ())).2.1, ()) = n.getD i (0, 0, ()) := rfl
    rw [e]
    unfold clashP
    rw [List.findSome?_cons]
    cases hf : l.find? (hit (n.getD i (0, 0, ())) but) with
    | some t => rfl
    | none =>
      simp (disch := omega) only [dp, dn, decide_true, decide_false, cond_true, cond_false, Bool.not_true, Bool.not_false, Bool.true_and, Bool.false_and, Bool.and_true, Bool.and_false, Bool.true_or, Bool.false_or, Bool.or_true, Bool.or_false, wr, Option.bind_some, tn_add, tn_add1, tn_sub1, tn_0, tn_1, Int.toNat_natCast, told]
      exact ih (i + 1) (by omega) (by omega)
theorem clash_spec {l : List Tg} (hi : Inv l) (hl : l.length ≤ 1000000) (n : List Sp) (hn : n.length ≤ 1000000) (but : Int) :
    iv_Set_clash.f (l, ()) n but = some ((told (clashP l n but)).1, (told (clashP l n but)).2, (l, ()), ()) := by
  have h := clash_l1a hi hl n hn but 0 0 0
  rw [iv_Set_clash.f_eq, iv_Set_clash.l1_eq]
  cases n with
  | nil => simp (disch := omega) only [dp, dn, decide_true, decide_false, cond_true, cond_false, Bool.not_true, Bool.not_false, Bool.true_and, Bool.false_and, Bool.and_true, Bool.and_false, Bool.true_or, Bool.false_or, Bool.or_true, Bool.or_false, wr, Option.bind_some, tn_add, tn_add1, tn_sub1, tn_0, tn_1, Int.toNat_natCast, List.length_nil, Int.natCast_zero]; rfl
  | cons x n =>
    have h1 := h _ 1 rfl (by simp)
    simp (disch := omega) only [dp, dn, decide_true, decide_false, cond_true, cond_false, Bool.not_true, Bool.not_false, Bool.true_and, Bool.false_and, Bool.and_true, Bool.and_false, Bool.true_or, Bool.false_or, Bool.or_true, Bool.or_false, wr, Option.bind_some, tn_add, tn_add1, tn_sub1, tn_0, tn_1, Int.toNat_natCast, List.length_cons, meets_spec hi hl, List.getD_cons_zero]
    have e : (x.1, x.2.1, ()) = x := rfl
    rw [e]
    unfold clashP
    rw [List.findSome?_cons]
    cases hf : l.find? (hit x but) with
    | some t => rfl
    | none =>
      simp (disch := omega) only [dp, dn, decide_true, decide_false, cond_true, cond_false, Bool.not_true, Bool.not_false, Bool.true_and, Bool.false_and, Bool.and_true, Bool.and_false, Bool.true_or, Bool.false_or, Bool.or_true, Bool.or_false, wr, Option.bind_some, tn_add, tn_add1, tn_sub1, tn_0, tn_1, Int.toNat_natCast, told]
      exact h1
theorem Clash_spec {l : List Tg} (hi : Inv l) (hl : l.length ≤ 1000000) (m n : List Sp) (hn : n.length ≤ 1000000) (h : iv_Norm.f m = some (n, ())) (but : Int) :
    iv_Set_Clash.f (l, ()) m but = some ((told (clashP l n but)).1, (told (clashP l n but)).2, (l, ()), ()) := by
  rw [iv_Set_Clash.f_eq, h, Option.bind_some, clash_spec hi hl n hn]
  rfl
/-! ### Has -/
theorem has_l1 (l : List Tg) (hl : l.length ≤ 1000000) (o : Int) : ∀ (k i : Nat), l.length - i = k → i ≤ l.length →
    ∃ r : Int, slices_IndexFunc_iv_Tagged_iv_Tagged.l1 l l.length i o = some (r, ((o, ()), ()), ()) ∧ decide (r ≥ 0) = (l.drop i).any fun t => decide (t.2.1 = o) := by
  intro k
  induction k with
  | zero =>
    intro i hk hi
    have e : i = l.length := by omega
    subst e
    rw [slices_IndexFunc_iv_Tagged_iv_Tagged.l1_eq]
    simp (disch := omega) only [dp, dn, decide_true, decide_false, cond_true, cond_false, Bool.not_true, Bool.not_false, Bool.true_and, Bool.false_and, Bool.and_true, Bool.and_false, Bool.true_or, Bool.false_or, Bool.or_true, Bool.or_false, wr, Option.bind_some, tn_add, tn_add1, tn_sub1, tn_0, tn_1, Int.toNat_natCast, List.drop_length]
    exact ⟨-1, rfl, rfl⟩
  | succ k ih =>
    intro i hk hi
    have hlt : i < l.length := by omega
    rw [slices_IndexFunc_iv_Tagged_iv_Tagged.l1_eq, drop_getD' zT hlt]
    simp (disch := omega) only [dp, dn, decide_true, decide_false, cond_true, cond_false, Bool.not_true, Bool.not_false, Bool.true_and, Bool.false_and, Bool.and_true, Bool.and_false, Bool.true_or, Bool.false_or, Bool.or_true, Bool.or_false, wr, Option.bind_some, tn_add, tn_add1, tn_sub1, tn_0, tn_1, Int.toNat_natCast, iv_Set_Has_1.f_eq, List.any_cons]
    by_cases ho : (l.getD i zT).2.1 = o
    · simp (disch := omega) only [dp, dn, decide_true, decide_false, cond_true, cond_false, Bool.not_true, Bool.not_false, Bool.true_and, Bool.false_and, Bool.and_true, Bool.and_false, Bool.true_or, Bool.false_or, Bool.or_true, Bool.or_false, wr, Option.bind_some, tn_add, tn_add1, tn_sub1, tn_0, tn_1, Int.toNat_natCast]
      exact ⟨i, rfl, dp (by omega)⟩
    · simp (disch := omega) only [dp, dn, decide_true, decide_false, cond_true, cond_false, Bool.not_true, Bool.not_false, Bool.true_and, Bool.false_and, Bool.and_true, Bool.and_false, Bool.true_or, Bool.false_or, Bool.or_true, Bool.or_false, wr, Option.bind_some, tn_add, tn_add1, tn_sub1, tn_0, tn_1, Int.toNat_natCast]
      exact ih (i + 1) (by omega) (by omega)
def hasO (l : List Tg) (o : Int) : Bool := l.any fun t => decide (t.2.1 = o)
theorem has_spec (l : List Tg) (hl : l.length ≤ 1000000) (o : Int) : iv_Set_Has.f (l, ()) o = some (hasO l o, (l, ()), ()) := by
  obtain ⟨r, h1, h2⟩ := has_l1 l hl o _ 0 rfl (Nat.zero_le _)
  rw [iv_Set_Has.f_eq, slices_ContainsFunc_iv_Tagged_iv_Tagged.f_eq, slices_IndexFunc_iv_Tagged_iv_Tagged.f_eq]
  rw [show ((0 : Nat) : Int) = 0 from rfl] at h1
  simp only [h1, Option.bind_some, h2, List.drop_zero]
  rfl
theorem hasO_iff (l : List Tg) (o : Int) : hasO l o = true ↔ ∃ t ∈ l, t.2.1 = o := by simp [hasO]
/-! ### Add -/
def tags (n : List Sp) (o : Int) : List Tg := n.map fun s => (s, o, ())
theorem sortT (l : List Tg) (h : l.length ≤ 1000000) : ∃ r, slices_SortFunc_iv_Tagged_iv_Tagged.f l () = some (r, (), ()) ∧ r.Perm l ∧ r.Pairwise (fun x y => x.1.1 ≤ y.1.1) := by
  refine ⟨sortBy zT cf41 l, ?_, sortBy_perm _ swo41 l, ?_⟩
  · rw [slices_SortFunc_iv_Tagged_iv_Tagged.f_sem]
    show (bif decide (List.length l ≤ limit) then some (sortBy zT cf41 l, (), ()) else none) = _
    rw [dp (by simp only [limit]; omega), cond_true]
  · refine (sortBy_sorted _ swo41 l).imp fun {x y} h => ?_
    have h2 := lt_lo y.1.1 x.1.1
    have h3 : decide (loCmp y.1.1 x.1.1 < 0) = false := decide_eq_false h
    rw [h3] at h2
    have := of_decide_eq_false h2.symm
    omega
theorem add_l2 (n : List Sp) (o : Int) (hn : n.length ≤ 1000000) : ∀ (k i : Nat) (y : List Tg), n.length - i = k → i ≤ n.length → y.length ≤ 2000000 + i →
    iv_Set_Add.l2 o n n.length i y = (slices_SortFunc_iv_Tagged_iv_Tagged.f (y ++ tags (n.drop i) o) ()).bind fun t => some (true, (t.1, ()), ()) := by
  have hlim : limit = 17179869184 := rfl
  intro k
  induction k with
  | zero =>
    intro i y hk hi hy
    have e : i = n.length := by omega
    subst e
    rw [iv_Set_Add.l2_eq]
    simp (disch := omega) only [dp, dn, decide_true, decide_false, cond_true, cond_false, Bool.not_true, Bool.not_false, Bool.true_and, Bool.false_and, Bool.and_true, Bool.and_false, Bool.true_or, Bool.false_or, Bool.or_true, Bool.or_false, wr, Option.bind_some, tn_add, tn_add1, tn_sub1, tn_0, tn_1, Int.toNat_natCast, List.drop_length, tags, List.map_nil, List.append_nil]
  | succ k ih =>
    intro i y hk hi hy
    have hlt : i < n.length := by omega
    rw [iv_Set_Add.l2_eq, drop_getD' (0, 0, ()) hlt]
    simp (disch := omega) only [dp, dn, decide_true, decide_false, cond_true, cond_false, Bool.not_true, Bool.not_false, Bool.true_and, Bool.false_and, Bool.and_true, Bool.and_false, Bool.true_or, Bool.false_or, Bool.or_true, Bool.or_false, wr, Option.bind_some, tn_add, tn_add1, tn_sub1, tn_0, tn_1, Int.toNat_natCast, List.length_singleton, hlim]
    exact (ih (i + 1) (y ++ [(n.getD i (0, 0, ()), o, ())]) (by omega) (by omega) (by simp; omega)).trans (by simp [tags])
/-- No two of them overlap. -/
def apart (a b : Tg) : Prop := a.1.2.1 ≤ b.1.1 ∨ b.1.2.1 ≤ a.1.1
theorem clashP_none {l : List Tg} {n : List Sp} {but : Int} (h : clashP l n but = none) : ∀ x ∈ n, ∀ t ∈ l, t.2.1 ≠ but → t.1.2.1 ≤ x.1 ∨ x.2.1 ≤ t.1.1 := by
  intro x hx t ht hb
  have h1 := (List.findSome?_eq_none_iff.1 h) x hx
  have h2 := (List.find?_eq_none.1 h1) t ht
  unfold hit at h2
  simp only [Bool.and_eq_true, decide_eq_true_eq, not_and] at h2
  have := h2 hb
  by_cases h3 : t.1.1 < x.2.1
  · have := this h3; omega
  · omega
/-- All in their places: what a sort makes of them. -/
theorem inv_of {l r : List Tg} {n : List Sp} {o : Int} (hi : Inv l) (hn : nrm n) (ho : 1 ≤ o) (hh : hasO l o = false) (hc : clashP l n 0 = none) (hp : r.Perm (l ++ tags n o)) (hs : r.Pairwise fun x y => x.1.1 ≤ y.1.1) : Inv r := by
  have hmem : ∀ x, x ∈ tags n o ↔ ∃ s ∈ n, x = (s, o, ()) := by intro x; simp only [tags, List.mem_map, eq_comm]
  have hno : ∀ t ∈ l, t.2.1 ≠ o := fun t ht e => by
    have : hasO l o = true := (hasO_iff l o).2 ⟨t, ht, e⟩
    rw [hh] at this; cases this
  have hne : ∀ x ∈ r, x.1.1 < x.1.2.1 ∧ 1 ≤ x.2.1 := by
    intro x hx
    rcases List.mem_append.1 (hp.mem_iff.1 hx) with h | h
    · exact hi.ne x h
    · obtain ⟨s, h1, rfl⟩ := (hmem x).1 h
      exact ⟨hn.2 s h1, ho⟩
  have hap : (l ++ tags n o).Pairwise fun a b => apart a b ∧ (a.2.1 = b.2.1 → a.1.2.1 < b.1.1 ∨ b.1.2.1 < a.1.1) := by
    refine List.pairwise_append.2 ⟨hi.pw.imp fun h => ⟨.inl h.1, fun e => .inl (h.2 e)⟩, ?_, ?_⟩
    · unfold tags
      rw [List.pairwise_map]
      exact hn.1.imp fun {a b} h => ⟨.inl (Int.le_of_lt h), fun _ => .inl h⟩
    · intro a ha b hb
      obtain ⟨s, h1, rfl⟩ := (hmem b).1 hb
      have h0 := (hi.ne a ha).2
      exact ⟨clashP_none hc s h1 a ha (by omega), fun e => absurd e (hno a ha)⟩
  have hap2 := (hp.symm.pairwise_iff (R := fun a b : Tg => apart a b ∧ (a.2.1 = b.2.1 → a.1.2.1 < b.1.1 ∨ b.1.2.1 < a.1.1)) fun {a b} h => ⟨h.1.symm, fun e => (h.2 e.symm).symm⟩).1 hap
  refine ⟨?_, hne⟩
  rw [List.pairwise_iff_getElem] at hap2 hs ⊢
  intro i j h1 h2 h3
  have a1 := hap2 i j h1 h2 h3
  have a2 := hs i j h1 h2 h3
  have a3 := (hne r[i] (List.getElem_mem h1)).1
  have a4 := (hne r[j] (List.getElem_mem h2)).1
  refine ⟨?_, fun e => ?_⟩
  · rcases a1.1 with h | h <;> omega
  · rcases a1.2 e with h | h <;> omega
/-- Add: what comes of it. -/
inductive Added (l : List Tg) (n : List Sp) (o : Int) : Bool → List Tg → Prop where
  | no (h : o < 1 ∨ hasO l o = true ∨ (clashP l n 0).isSome = true) : Added l n o false l
  | yes (r : List Tg) (h1 : 1 ≤ o) (h2 : hasO l o = false) (h3 : clashP l n 0 = none) (h4 : r.Perm (l ++ tags n o)) (h5 : Inv r) : Added l n o true r
theorem Add_spec {l : List Tg} (hi : Inv l) (hl : l.length ≤ 500000) {m n : List Sp} (hn : n.length ≤ 500000) (h : iv_Norm.f m = some (n, ())) (hnn : nrm n) (o : Int) :
    ∃ b r, iv_Set_Add.f (l, ()) m o = some (b, (r, ()), ()) ∧ Added l n o b r := by
  have rest : hasO l o = false → 1 ≤ o → ∀ F : Option (Bool × (List Tg × Unit) × Unit), F = ((iv_Set_clash.f (l, ()) n 0).bind fun t3 => bif t3.2.1 then (some (false, (t3.2.2.1.1, ()), ())) else (iv_Set_Add.l2 o n (n.length : Int) 0 t3.2.2.1.1)) → ∃ b r, F = some (b, (r, ()), ()) ∧ Added l n o b r := by
    rintro hh ho F rfl
    rw [clash_spec hi (by omega) n (by omega), Option.bind_some]
    cases hc : clashP l n 0 with
    | some t => exact ⟨false, l, rfl, .no (.inr (.inr (by rw [hc]; rfl)))⟩
    | none =>
      have h1 := add_l2 n o (by omega) _ 0 l rfl (Nat.zero_le _) (by omega)
      rw [show ((0 : Nat) : Int) = 0 from rfl, List.drop_zero] at h1
      obtain ⟨r, h2, h3, h4⟩ := sortT (l ++ tags n o) (by simp [tags]; omega)
      rw [h2] at h1
      exact ⟨true, r, h1, .yes r ho hh hc h3 (inv_of hi hnn ho hh hc h3 h4)⟩
  rw [iv_Set_Add.f_eq, h, Option.bind_some]
  by_cases ho : o < 1
  · simp (disch := omega) only [dp, dn, decide_true, decide_false, cond_true, cond_false, Bool.not_true, Bool.not_false, Bool.true_and, Bool.false_and, Bool.and_true, Bool.and_false, Bool.true_or, Bool.false_or, Bool.or_true, Bool.or_false, wr, Option.bind_some, tn_add, tn_add1, tn_sub1, tn_0, tn_1, Int.toNat_natCast, iv_Set_Add.l1_eq]
    exact ⟨false, l, rfl, .no (.inl ho)⟩
  · simp (disch := omega) only [dp, dn, decide_true, decide_false, cond_true, cond_false, Bool.not_true, Bool.not_false, Bool.true_and, Bool.false_and, Bool.and_true, Bool.and_false, Bool.true_or, Bool.false_or, Bool.or_true, Bool.or_false, wr, Option.bind_some, tn_add, tn_add1, tn_sub1, tn_0, tn_1, Int.toNat_natCast, has_spec l (show l.length ≤ 1000000 by omega) o, iv_Set_Add.l1a_eq]
    cases hh : hasO l o with
    | true => exact ⟨false, l, rfl, .no (.inr (.inl hh))⟩
    | false => exact rest hh (by omega) _ rfl
end Go.GV.Ytpffinebjiopaaa
