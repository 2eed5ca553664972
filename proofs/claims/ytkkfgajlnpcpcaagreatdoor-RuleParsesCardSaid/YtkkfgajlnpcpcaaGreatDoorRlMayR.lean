/-
What may be a rule: the program's and the document's words are one. (This session's own text.)
-/
import Derived.Test.YtkkfgajlnpcpcaaGreatDoorRlMay
set_option linter.unusedVariables false
set_option linter.unusedSimpArgs false
namespace Go.GV.YtkkfgajlnpcpcaaGreatDoor
open Go.Proofs
abbrev Rl := Int × Int × Int × Int × Int × Bool × List Int × List Int × List Int × List Int × List Dy × List Int × List Int × List Int × List Int × Unit
/-- Goes on where p holds. -/
def Gate (f : Option (Bool × Unit)) (p : Prop) (K : Option (Bool × Unit)) : Prop := (p → f = K) ∧ (¬ p → f = some (false, ()))
theorem Gate.iff {f K : Option (Bool × Unit)} {p q : Prop} (h : Gate f p K) (e : p ↔ q) : Gate f q K := ⟨fun x => h.1 (e.2 x), fun x => h.2 fun y => x (e.1 y)⟩
theorem Gate.eq {f g K : Option (Bool × Unit)} {p : Prop} (h : Gate f p K) (k : Gate g p K) : f = g := by
  by_cases hp : p
  · rw [h.1 hp, k.1 hp]
  · rw [h.2 hp, k.2 hp]
theorem gate_and {f g K : Option (Bool × Unit)} {p q : Prop} (h : Tells f p) (k : Gate g q K) : Gate (f.bind fun t => bif !t.1 then some (false, ()) else g) (p ∧ q) K := by
  obtain ⟨b, h1, h2⟩ := h
  rw [h1]
  simp only [Option.bind_some]
  cases b with
  | true => exact ⟨fun x => k.1 x.2, fun x => k.2 fun y => x ⟨h2.1 rfl, y⟩⟩
  | false => exact ⟨fun x => absurd (h2.2 x.1) (by simp), fun _ => rfl⟩
theorem tells_and {f g : Option (Bool × Unit)} {p q : Prop} (h : Tells f p) (k : Tells g q) : Tells (f.bind fun t => bif t.1 then g else some (false, ())) (p ∧ q) := by
  obtain ⟨b, h1, h2⟩ := h
  obtain ⟨c, k1, k2⟩ := k
  rw [h1]
  simp only [Option.bind_some]
  cases b with
  | true => rw [cond_true]; exact ⟨c, k1, ⟨fun x => ⟨h2.1 rfl, k2.1 x⟩, fun x => k2.2 x.2⟩⟩
  | false => exact ⟨false, rfl, ⟨fun x => by simp at x, fun x => absurd (h2.2 x.1) (by simp)⟩⟩
theorem tells_last {f : Option (Bool × Unit)} {p : Prop} (h : Tells f p) : Tells (f.bind fun t => some (t.1, ())) p := by
  obtain ⟨b, h1, h2⟩ := h
  exact ⟨b, by rw [h1]; rfl, h2⟩
/-! ### The program's -/
def numd (f : Int) (we : List Int) (l : List Dy) (j : Nat) : Prop := (gD l j).1 ≠ 0 → f = 2 ∨ f = 1 ∧ we.length = 0
section
variable (f iv ct un wk : Int) (en : Bool) (mo we yd md : List Int) (dy : List Dy) (ho mi se po : List Int)
theorem mdays_l1 (hl : dy.length ≤ 1000000) (hw : we.length ≤ 1000000) : ∀ (k i : Nat), dy.length - i = k → i ≤ dy.length → (∀ j, j < i → okD dy j) →
    Tells (rule_mayDays.l1 dy dy.length i f iv ct un wk en mo we yd md dy ho mi se po) ((∀ j, i ≤ j → j < dy.length → okD dy j ∧ numd f we dy j) ∧ dy.length ≤ 60) := by
  intro k
  induction k with
  | zero =>
    intro i hk hil hpre
    rw [rule_mayDays.l1_eq]
    simp (disch := omega) only [dp, dn, decide_true, decide_false, cond_true, cond_false, Bool.not_true, Bool.not_false, Bool.true_and, Bool.false_and, Bool.and_true, Bool.and_false, Bool.true_or, Bool.false_or, Bool.or_true, Bool.or_false, wr, Option.bind_some, tn_add, tn_add1, tn_sub1, tn_0, tn_1, Int.toNat_natCast]
    refine ⟨_, rfl, ?_⟩
    rw [decide_eq_true_eq]
    exact ⟨fun h => ⟨fun j h1 h2 => by omega, by omega⟩, fun h => by omega⟩
  | succ k ih =>
    intro i hk hil hpre
    have hlt : i < dy.length := by omega
    have hg : dy.getD i ((0, 0, ()) : Int × Int × Unit) = gD dy i := rfl
    have hg1 : dy.getD (i - 1) ((0, 0, ()) : Int × Int × Unit) = gD dy (i - 1) := rfl
    have stop : ¬ (okD dy i ∧ numd f we dy i) → Tells (some (false, ())) ((∀ j, i ≤ j → j < dy.length → okD dy j ∧ numd f we dy j) ∧ dy.length ≤ 60) := fun h =>
      ⟨false, rfl, by simp; intro q; exact absurd (q i (Nat.le_refl _) hlt) h⟩
    have go : okD dy i → numd f we dy i → Tells (rule_mayDays.l3 dy dy.length i false f iv ct un wk en mo we yd md dy ho mi se po) ((∀ j, i ≤ j → j < dy.length → okD dy j ∧ numd f we dy j) ∧ dy.length ≤ 60) := fun h h' => by
      rw [rule_mayDays.l3_eq]
      simp (disch := omega) only [dp, dn, decide_true, decide_false, cond_true, cond_false, Bool.not_true, Bool.not_false, Bool.true_and, Bool.false_and, Bool.and_true, Bool.and_false, Bool.true_or, Bool.false_or, Bool.or_true, Bool.or_false, wr, Option.bind_some, tn_add, tn_add1, tn_sub1, tn_0, tn_1, Int.toNat_natCast]
      refine (ih (i + 1) (by omega) (by omega) fun j hj => ?_).iff ⟨fun q => ⟨fun j h1 h2 => ?_, q.2⟩, fun q => ⟨fun j h1 h2 => q.1 j (by omega) h2, q.2⟩⟩
      · by_cases e : j = i
        · subst e; exact h
        · exact hpre j (by omega)
      · by_cases e : j = i
        · subst e; exact ⟨h, h'⟩
        · exact q.1 j (by omega) h2
    have l3t : rule_mayDays.l3 dy dy.length i true f iv ct un wk en mo we yd md dy ho mi se po = some (false, ()) := by rw [rule_mayDays.l3_eq, cond_true]
    have bad : ∀ a b, ¬ okD dy i → Tells (rule_mayDays.l2 dy dy.length i true f iv ct un wk en mo we yd md dy ho mi se po a b) ((∀ j, i ≤ j → j < dy.length → okD dy j ∧ numd f we dy j) ∧ dy.length ≤ 60) := fun a b h => by
      rw [rule_mayDays.l2_eq, cond_true]
      exact stop fun q => h q.1
    have good : okD dy i → Tells (rule_mayDays.l2 dy dy.length i false f iv ct un wk en mo we yd md dy ho mi se po (gD dy i).1 (gD dy i).2.1) ((∀ j, i ≤ j → j < dy.length → okD dy j ∧ numd f we dy j) ∧ dy.length ≤ 60) := fun h => by
      rw [rule_mayDays.l2_eq, cond_false]
      by_cases c1 : (gD dy i).1 = 0
      · simp (disch := omega) only [dp, dn, decide_true, decide_false, cond_true, cond_false, Bool.not_true, Bool.not_false, Bool.true_and, Bool.false_and, Bool.and_true, Bool.and_false, Bool.true_or, Bool.false_or, Bool.or_true, Bool.or_false, wr, Option.bind_some, tn_add, tn_add1, tn_sub1, tn_0, tn_1, Int.toNat_natCast]
        exact go h fun q => absurd c1 q
      · by_cases c2 : f = 2
        · simp (disch := omega) only [dp, dn, decide_true, decide_false, cond_true, cond_false, Bool.not_true, Bool.not_false, Bool.true_and, Bool.false_and, Bool.and_true, Bool.and_false, Bool.true_or, Bool.false_or, Bool.or_true, Bool.or_false, wr, Option.bind_some, tn_add, tn_add1, tn_sub1, tn_0, tn_1, Int.toNat_natCast]
          exact go h fun _ => .inl c2
        · by_cases c3 : f = 1
          · by_cases c4 : (we.length : Int) > 0
            · simp (disch := omega) only [dp, dn, decide_true, decide_false, cond_true, cond_false, Bool.not_true, Bool.not_false, Bool.true_and, Bool.false_and, Bool.and_true, Bool.and_false, Bool.true_or, Bool.false_or, Bool.or_true, Bool.or_false, wr, Option.bind_some, tn_add, tn_add1, tn_sub1, tn_0, tn_1, Int.toNat_natCast, l3t]
              exact stop fun q => by rcases q.2 c1 with q | q <;> omega
            · simp (disch := omega) only [dp, dn, decide_true, decide_false, cond_true, cond_false, Bool.not_true, Bool.not_false, Bool.true_and, Bool.false_and, Bool.and_true, Bool.and_false, Bool.true_or, Bool.false_or, Bool.or_true, Bool.or_false, wr, Option.bind_some, tn_add, tn_add1, tn_sub1, tn_0, tn_1, Int.toNat_natCast]
              exact go h fun _ => .inr ⟨c3, by omega⟩
          · simp (disch := omega) only [dp, dn, decide_true, decide_false, cond_true, cond_false, Bool.not_true, Bool.not_false, Bool.true_and, Bool.false_and, Bool.and_true, Bool.and_false, Bool.true_or, Bool.false_or, Bool.or_true, Bool.or_false, wr, Option.bind_some, tn_add, tn_add1, tn_sub1, tn_0, tn_1, Int.toNat_natCast, l3t]
            exact stop fun q => by rcases q.2 c1 with q | q <;> omega
    rw [rule_mayDays.l1_eq]
    simp (disch := omega) only [dp, dn, decide_true, decide_false, cond_true, cond_false, Bool.not_true, Bool.not_false, Bool.true_and, Bool.false_and, Bool.and_true, Bool.and_false, Bool.true_or, Bool.false_or, Bool.or_true, Bool.or_false, wr, Option.bind_some, tn_add, tn_add1, tn_sub1, tn_0, tn_1, Int.toNat_natCast, hg]
    by_cases c1 : (gD dy i).1 < -53
    · rw [dp c1, cond_true]
      exact bad _ _ fun q => by have := q.1; omega
    · by_cases c2 : (gD dy i).1 > 53
      · rw [dn c1, dp c2, cond_false, cond_true]
        exact bad _ _ fun q => by have := q.2.1; omega
      · by_cases c3 : (gD dy i).2.1 < 0
        · rw [dn c1, dn c2, dp c3, cond_false, cond_false, cond_true]
          exact bad _ _ fun q => by have := q.2.2.1; omega
        · by_cases c4 : (gD dy i).2.1 > 6
          · rw [dn c1, dn c2, dn c3, dp c4, cond_false, cond_false, cond_false, cond_true]
            exact bad _ _ fun q => by have := q.2.2.2.1; omega
          · rw [dn c1, dn c2, dn c3, dn c4, cond_false, cond_false, cond_false, cond_false]
            by_cases h0 : i = 0
            · simp (disch := omega) only [dp, dn, decide_true, decide_false, cond_true, cond_false, Bool.not_true, Bool.not_false, Bool.true_and, Bool.false_and, Bool.and_true, Bool.and_false, Bool.true_or, Bool.false_or, Bool.or_true, Bool.or_false, wr, Option.bind_some, tn_add, tn_add1, tn_sub1, tn_0, tn_1, Int.toNat_natCast]
              exact good ⟨by omega, by omega, by omega, by omega, fun q => by omega⟩
            · have hp := hpre (i - 1) (by omega)
              have b1 := hp.1
              have b2 := hp.2.1
              have b3 := hp.2.2.1
              have b4 := hp.2.2.2.1
              simp (disch := omega) only [dp, dn, decide_true, decide_false, cond_true, cond_false, Bool.not_true, Bool.not_false, Bool.true_and, Bool.false_and, Bool.and_true, Bool.and_false, Bool.true_or, Bool.false_or, Bool.or_true, Bool.or_false, wr, Option.bind_some, tn_add, tn_add1, tn_sub1, tn_0, tn_1, Int.toNat_natCast, hg1, rule_order.f_eq]
              by_cases c6 : (gD dy (i - 1)).1 = (gD dy i).1
              · simp (disch := omega) only [dp, dn, decide_true, decide_false, cond_true, cond_false, Bool.not_true, Bool.not_false, Bool.true_and, Bool.false_and, Bool.and_true, Bool.and_false, Bool.true_or, Bool.false_or, Bool.or_true, Bool.or_false, wr, Option.bind_some, tn_add, tn_add1, tn_sub1, tn_0, tn_1, Int.toNat_natCast]
                by_cases c7 : (gD dy (i - 1)).2.1 - (gD dy i).2.1 ≥ 0
                · rw [dp c7]
                  exact bad _ _ fun q => by have := q.2.2.2.2 (by omega); unfold dyLt at this; omega
                · rw [dn c7]
                  exact good ⟨by omega, by omega, by omega, by omega, fun _ => by unfold dyLt; omega⟩
              · simp (disch := omega) only [dp, dn, decide_true, decide_false, cond_true, cond_false, Bool.not_true, Bool.not_false, Bool.true_and, Bool.false_and, Bool.and_true, Bool.and_false, Bool.true_or, Bool.false_or, Bool.or_true, Bool.or_false, wr, Option.bind_some, tn_add, tn_add1, tn_sub1, tn_0, tn_1, Int.toNat_natCast]
                by_cases c7 : (gD dy (i - 1)).1 - (gD dy i).1 ≥ 0
                · rw [dp c7]
                  exact bad _ _ fun q => by have := q.2.2.2.2 (by omega); unfold dyLt at this; omega
                · rw [dn c7]
                  exact good ⟨by omega, by omega, by omega, by omega, fun _ => by unfold dyLt; omega⟩
def listsP : Prop := wi mo 1 12 false ∧ wi we (-53) 53 false ∧ wi yd (-366) 366 false ∧ wi md (-31) 31 false ∧ wi ho 0 23 true ∧ wi mi 0 59 true ∧ wi se 0 59 true ∧ wi po (-366) 366 false ∧ (dwi dy ∧ ∀ j, j < dy.length → numd f we dy j)
def short : Prop := mo.length ≤ 100000 ∧ we.length ≤ 100000 ∧ yd.length ≤ 100000 ∧ md.length ≤ 100000 ∧ dy.length ≤ 100000 ∧ ho.length ≤ 100000 ∧ mi.length ≤ 100000 ∧ se.length ≤ 100000 ∧ po.length ≤ 100000
theorem lists_spec (h : short mo we yd md dy ho mi se po) : Tells (rule_mayLists.f (f, iv, ct, un, wk, en, mo, we, yd, md, dy, ho, mi, se, po, ())) (listsP f mo we yd md dy ho mi se po) := by
  obtain ⟨h1, h2, h3, h4, h5, h6, h7, h8, h9⟩ := h
  have hD := mdays_l1 f iv ct un wk en mo we yd md dy ho mi se po (by omega) (by omega) _ 0 rfl (Nat.zero_le _) fun j hj => by omega
  rw [Int.natCast_zero] at hD
  have hD2 : Tells (rule_mayDays.f (f, iv, ct, un, wk, en, mo, we, yd, md, dy, ho, mi, se, po, ())) (dwi dy ∧ ∀ j, j < dy.length → numd f we dy j) := by
    rw [rule_mayDays.f_eq]
    exact hD.iff ⟨fun q => ⟨⟨fun j hj => (q.1 j (Nat.zero_le _) hj).1, q.2⟩, fun j hj => (q.1 j (Nat.zero_le _) hj).2⟩, fun q => ⟨fun j _ hj => ⟨q.1.1 j hj, q.2 j hj⟩, q.1.2⟩⟩
  rw [rule_mayLists.f_eq]
  exact tells_and (within_spec mo 1 12 false (by omega)) (tells_and (within_spec we (-53) 53 false (by omega)) (tells_and (within_spec yd (-366) 366 false (by omega)) (tells_and (within_spec md (-31) 31 false (by omega)) (tells_and (within_spec ho 0 23 true (by omega)) (tells_and (within_spec mi 0 59 true (by omega)) (tells_and (within_spec se 0 59 true (by omega)) (tells_and (within_spec po (-366) 366 false (by omega)) (tells_last hD2))))))))
def numP : Prop := (1 ≤ f ∧ f ≤ 7 ∧ 1 ≤ iv ∧ iv ≤ 1000 ∧ 0 ≤ ct ∧ ct ≤ 4096 ∧ 0 ≤ wk ∧ wk ≤ 6) ∧ (en = true → (-62135596800 ≤ un ∧ un ≤ 253402300799) ∧ ct = 0) ∧ (en = false → un = 0)
theorem nums_spec : Tells (rule_mayNumbers.f (f, iv, ct, un, wk, en, mo, we, yd, md, dy, ho, mi, se, po, ())) (numP f iv ct un wk en) := by
  have l1t : rule_mayNumbers.l1 true f iv ct un wk en mo we yd md dy ho mi se po = some (false, ()) := by rw [rule_mayNumbers.l1_eq, cond_true]
  have no : ¬ (1 ≤ f ∧ f ≤ 7 ∧ 1 ≤ iv ∧ iv ≤ 1000 ∧ 0 ≤ ct ∧ ct ≤ 4096 ∧ 0 ≤ wk ∧ wk ≤ 6) → Tells (some (false, ())) (numP f iv ct un wk en) := fun h => ⟨false, rfl, ⟨fun q => by simp at q, fun q => absurd q.1 h⟩⟩
  rw [rule_mayNumbers.f_eq]
  dsimp only
  by_cases c : 1 ≤ f ∧ f ≤ 7 ∧ 1 ≤ iv ∧ iv ≤ 1000 ∧ 0 ≤ ct ∧ ct ≤ 4096 ∧ 0 ≤ wk ∧ wk ≤ 6
  · obtain ⟨c1, c2, c3, c4, c5, c6, c7, c8⟩ := c
    simp (disch := omega) only [dp, dn, decide_true, decide_false, cond_true, cond_false, Bool.not_true, Bool.not_false, Bool.true_and, Bool.false_and, Bool.and_true, Bool.and_false, Bool.true_or, Bool.false_or, Bool.or_true, Bool.or_false, wr, Option.bind_some, tn_add, tn_add1, tn_sub1, tn_0, tn_1, Int.toNat_natCast, rule_mayNumbers.l1_eq, stamp_May.f_eq]
    cases en with
    | true =>
      simp (disch := omega) only [dp, dn, decide_true, decide_false, cond_true, cond_false, Bool.not_true, Bool.not_false, Bool.true_and, Bool.false_and, Bool.and_true, Bool.and_false, Bool.true_or, Bool.false_or, Bool.or_true, Bool.or_false, wr, Option.bind_some, tn_add, tn_add1, tn_sub1, tn_0, tn_1, Int.toNat_natCast]
      by_cases d1 : un ≥ -62135596800
      · by_cases d2 : un ≤ 253402300799
        · simp (disch := omega) only [dp, dn, decide_true, decide_false, cond_true, cond_false, Bool.not_true, Bool.not_false, Bool.true_and, Bool.false_and, Bool.and_true, Bool.and_false, Bool.true_or, Bool.false_or, Bool.or_true, Bool.or_false, wr, Option.bind_some, tn_add, tn_add1, tn_sub1, tn_0, tn_1, Int.toNat_natCast]
          refine ⟨_, rfl, ?_⟩
          rw [decide_eq_true_eq]
          exact ⟨fun q => ⟨⟨c1, c2, c3, c4, c5, c6, c7, c8⟩, fun _ => ⟨⟨by omega, d2⟩, q⟩, fun q => by cases q⟩, fun q => (q.2.1 rfl).2⟩
        · simp (disch := omega) only [dp, dn, decide_true, decide_false, cond_true, cond_false, Bool.not_true, Bool.not_false, Bool.true_and, Bool.false_and, Bool.and_true, Bool.and_false, Bool.true_or, Bool.false_or, Bool.or_true, Bool.or_false, wr, Option.bind_some, tn_add, tn_add1, tn_sub1, tn_0, tn_1, Int.toNat_natCast]
          exact ⟨false, rfl, ⟨fun q => by simp at q, fun q => by have := (q.2.1 rfl).1; omega⟩⟩
      · simp (disch := omega) only [dp, dn, decide_true, decide_false, cond_true, cond_false, Bool.not_true, Bool.not_false, Bool.true_and, Bool.false_and, Bool.and_true, Bool.and_false, Bool.true_or, Bool.false_or, Bool.or_true, Bool.or_false, wr, Option.bind_some, tn_add, tn_add1, tn_sub1, tn_0, tn_1, Int.toNat_natCast]
        exact ⟨false, rfl, ⟨fun q => by simp at q, fun q => by have := (q.2.1 rfl).1; omega⟩⟩
    | false =>
      simp (disch := omega) only [dp, dn, decide_true, decide_false, cond_true, cond_false, Bool.not_true, Bool.not_false, Bool.true_and, Bool.false_and, Bool.and_true, Bool.and_false, Bool.true_or, Bool.false_or, Bool.or_true, Bool.or_false, wr, Option.bind_some, tn_add, tn_add1, tn_sub1, tn_0, tn_1, Int.toNat_natCast]
      refine ⟨_, rfl, ?_⟩
      rw [decide_eq_true_eq]
      exact ⟨fun q => ⟨⟨c1, c2, c3, c4, c5, c6, c7, c8⟩, (fun q => by cases q), fun _ => q⟩, fun q => q.2.2 rfl⟩
  · have hb : ∀ {p : Prop} [Decidable p] {x : Option (Bool × Unit)}, (¬ p → Tells x (numP f iv ct un wk en)) → (p → Tells (some (false, ())) (numP f iv ct un wk en)) → Tells (bif decide p then (some (false, ())) else x) (numP f iv ct un wk en) := fun {p} _ {x} h1 h2 => by
      by_cases hp : p
      · rw [dp hp, cond_true]; exact h2 hp
      · rw [dn hp, cond_false]; exact h1 hp
    have hn := no c
    rw [l1t]
    refine hb (fun d1 => hb (fun d2 => hb (fun d3 => hb (fun d4 => hb (fun d5 => hb (fun d6 => hb (fun d7 => ?_) fun _ => hn) fun _ => hn) fun _ => hn) fun _ => hn) fun _ => hn) fun _ => hn) fun _ => hn
    have : wk > 6 := by omega
    rw [dp this, l1t]
    exact hn
/-- What both ask ahead of the last words. -/
def mayP : Prop := numP f iv ct un wk en ∧ listsP f mo we yd md dy ho mi se po ∧ (0 < we.length → f = 1) ∧ (0 < yd.length → ¬ (2 ≤ f ∧ f ≤ 4)) ∧ (0 < md.length → f ≠ 3)
theorem may_gate (h : short mo we yd md dy ho mi se po) : Gate (rule_May.f (f, iv, ct, un, wk, en, mo, we, yd, md, dy, ho, mi, se, po, ())) (mayP f iv ct un wk en mo we yd md dy ho mi se po) (rule_May.l5 f iv ct un wk en mo we yd md dy ho mi se po) := by
  have l1t : rule_May.l1 true f iv ct un wk en mo we yd md dy ho mi se po = some (false, ()) := by rw [rule_May.l1_eq, cond_true]
  have l2t : rule_May.l2 true f iv ct un wk en mo we yd md dy ho mi se po = some (false, ()) := by rw [rule_May.l2_eq, cond_true]
  have l3t : rule_May.l3 true f iv ct un wk en mo we yd md dy ho mi se po = some (false, ()) := by rw [rule_May.l3_eq, cond_true]
  have l4t : rule_May.l4 true f iv ct un wk en mo we yd md dy ho mi se po = some (false, ()) := by rw [rule_May.l4_eq, cond_true]
  have l4f : rule_May.l4 false f iv ct un wk en mo we yd md dy ho mi se po = rule_May.l5 f iv ct un wk en mo we yd md dy ho mi se po := by rw [rule_May.l4_eq, cond_false]
  have g3 : Gate (rule_May.l3 false f iv ct un wk en mo we yd md dy ho mi se po) (0 < md.length → f ≠ 3) (rule_May.l5 f iv ct un wk en mo we yd md dy ho mi se po) := by
    rw [rule_May.l3_eq, cond_false]
    by_cases c : (md.length : Int) > 0
    · rw [dp c, cond_true]
      by_cases c2 : f = 3
      · rw [dp c2, l4t]
        exact ⟨fun q => absurd c2 (q (by omega)), fun _ => rfl⟩
      · rw [dn c2, l4f]
        exact ⟨fun _ => rfl, fun q => absurd (fun _ => c2) q⟩
    · rw [dn c, cond_false, l4f]
      exact ⟨fun _ => rfl, fun q => absurd (fun x => by omega) q⟩
  have g2 : Gate (rule_May.l2 false f iv ct un wk en mo we yd md dy ho mi se po) ((0 < yd.length → ¬ (2 ≤ f ∧ f ≤ 4)) ∧ (0 < md.length → f ≠ 3)) (rule_May.l5 f iv ct un wk en mo we yd md dy ho mi se po) := by
    rw [rule_May.l2_eq, cond_false]
    by_cases c : (yd.length : Int) > 0
    · rw [dp c, cond_true]
      by_cases c2 : f ≥ 2
      · rw [dp c2, cond_true]
        by_cases c3 : f ≤ 4
        · rw [dp c3, l3t]
          exact ⟨fun q => absurd ⟨by omega, c3⟩ (q.1 (by omega)), fun _ => rfl⟩
        · rw [dn c3]
          exact g3.iff ⟨fun q => ⟨fun _ => by omega, q⟩, fun q => q.2⟩
      · rw [dn c2, cond_false]
        exact g3.iff ⟨fun q => ⟨fun _ => by omega, q⟩, fun q => q.2⟩
    · rw [dn c, cond_false]
      exact g3.iff ⟨fun q => ⟨fun x => by omega, q⟩, fun q => q.2⟩
  have g1 : Gate (rule_May.l1 false f iv ct un wk en mo we yd md dy ho mi se po) ((0 < we.length → f = 1) ∧ (0 < yd.length → ¬ (2 ≤ f ∧ f ≤ 4)) ∧ (0 < md.length → f ≠ 3)) (rule_May.l5 f iv ct un wk en mo we yd md dy ho mi se po) := by
    rw [rule_May.l1_eq, cond_false]
    by_cases c : (we.length : Int) > 0
    · rw [dp c, cond_true]
      by_cases c2 : f = 1
      · rw [dp c2, Bool.not_true]
        exact g2.iff ⟨fun q => ⟨fun _ => c2, q⟩, fun q => q.2⟩
      · rw [dn c2, Bool.not_false, l2t]
        exact ⟨fun q => absurd (q.1 (by omega)) c2, fun _ => rfl⟩
    · rw [dn c, cond_false]
      exact g2.iff ⟨fun q => ⟨fun x => by omega, q⟩, fun q => q.2⟩
  have hL : Gate ((rule_mayLists.f (f, iv, ct, un, wk, en, mo, we, yd, md, dy, ho, mi, se, po, ())).bind fun t2 => rule_May.l1 (!t2.1) f iv ct un wk en mo we yd md dy ho mi se po) (listsP f mo we yd md dy ho mi se po ∧ (0 < we.length → f = 1) ∧ (0 < yd.length → ¬ (2 ≤ f ∧ f ≤ 4)) ∧ (0 < md.length → f ≠ 3)) (rule_May.l5 f iv ct un wk en mo we yd md dy ho mi se po) := by
    have := gate_and (lists_spec f iv ct un wk en mo we yd md dy ho mi se po h) g1
    obtain ⟨b, h1, _⟩ := lists_spec f iv ct un wk en mo we yd md dy ho mi se po h
    rw [h1] at this ⊢
    simp only [Option.bind_some] at this ⊢
    cases b with
    | true => exact this
    | false => rw [Bool.not_false, l1t]; exact this
  rw [rule_May.f_eq]
  have := gate_and (nums_spec f iv ct un wk en mo we yd md dy ho mi se po) hL
  simp only [l1t]
  exact this
end
end Go.GV.YtkkfgajlnpcpcaaGreatDoor
