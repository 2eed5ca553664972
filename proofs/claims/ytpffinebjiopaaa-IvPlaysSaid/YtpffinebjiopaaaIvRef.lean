/-
What the document's set comes to: the same lists. (This session's own text.)
-/
import Derived.Test.YtpffinebjiopaaaIvOwners
import Derived.Test.YtpffinebjiopaaaIvClash
set_option linter.unusedVariables false
set_option linter.unusedSimpArgs false
namespace Go.GV.Ytpffinebjiopaaa
open Go.Proofs
theorem rhas_spec (l : List Tg) (hl : l.length ≤ 1000000) (o : Int) : vokref10_Set_has.f (l, ()) o = some (hasO l o, (l, ()), ()) := by
  have key : ∀ (k i : Nat), l.length - i = k → i ≤ l.length → vokref10_Set_has.l1 o i l = some (hasO (l.drop i) o, (l, ()), ()) := by
    intro k
    induction k with
    | zero =>
      intro i hk hi
      have e : i = l.length := by omega
      subst e
      rw [vokref10_Set_has.l1_eq]
      simp (disch := omega) only [dp, dn, decide_true, decide_false, cond_true, cond_false, Bool.not_true, Bool.not_false, Bool.true_and, Bool.false_and, Bool.and_true, Bool.and_false, Bool.true_or, Bool.false_or, Bool.or_true, Bool.or_false, wr, Option.bind_some, tn_add, tn_add1, tn_sub1, tn_0, tn_1, Int.toNat_natCast, List.drop_length]
      rfl
    | succ k ih =>
      intro i hk hi
      have hlt : i < l.length := by omega
      rw [vokref10_Set_has.l1_eq, drop_getD' ((0, 0, ()), 0, ()) hlt]
      have e : hasO (l.getD i ((0, 0, ()), 0, ()) :: l.drop (i + 1)) o = (decide ((l.getD i ((0, 0, ()), 0, ())).2.1 = o) || hasO (l.drop (i + 1)) o) := by simp [hasO]
      rw [e]
      by_cases h : (l.getD i ((0, 0, ()), 0, ())).2.1 = o
      · simp (disch := omega) only [dp, dn, decide_true, decide_false, cond_true, cond_false, Bool.not_true, Bool.not_false, Bool.true_and, Bool.false_and, Bool.and_true, Bool.and_false, Bool.true_or, Bool.false_or, Bool.or_true, Bool.or_false, wr, Option.bind_some, tn_add, tn_add1, tn_sub1, tn_0, tn_1, Int.toNat_natCast]
      · simp (disch := omega) only [dp, dn, decide_true, decide_false, cond_true, cond_false, Bool.not_true, Bool.not_false, Bool.true_and, Bool.false_and, Bool.and_true, Bool.and_false, Bool.true_or, Bool.false_or, Bool.or_true, Bool.or_false, wr, Option.bind_some, tn_add, tn_add1, tn_sub1, tn_0, tn_1, Int.toNat_natCast]
        exact ih (i + 1) (by omega) (by omega)
  rw [vokref10_Set_has.f_eq]
  exact key _ 0 rfl (Nat.zero_le _)
theorem rclash_l2 (n : List Sp) (hn : n.length ≤ 1000000) (but : Int) (y : List Tg) (hl : y.length ≤ 1000000) (i : Nat) (hi : i < y.length) (c0 c1 c2 : Int) : ∀ (k j : Nat), n.length - j = k → j ≤ n.length →
    vokref10_Set_Clash.l2 but n i j y c0 c1 c2 = if hitN (n.drop j) but (y.getD i ((0, 0, ()), 0, ())) = true then some (y.getD i ((0, 0, ()), 0, ()), true, (y, ()), ()) else vokref10_Set_Clash.l1 but n ((i + 1 : Nat) : Int) y c0 c1 c2 := by
  intro k
  induction k with
  | zero =>
    intro j hk hj
    have e : j = n.length := by omega
    subst e
    rw [vokref10_Set_Clash.l2_eq]
    simp (disch := omega) only [dp, dn, decide_true, decide_false, cond_true, cond_false, Bool.not_true, Bool.not_false, Bool.true_and, Bool.false_and, Bool.and_true, Bool.and_false, Bool.true_or, Bool.false_or, Bool.or_true, Bool.or_false, wr, Option.bind_some, tn_add, tn_add1, tn_sub1, tn_0, tn_1, Int.toNat_natCast, List.drop_length, hitN, List.any_nil, Bool.false_eq_true, if_false]
    rfl
  | succ k ih =>
    intro j hk hj
    have hlt : j < n.length := by omega
    have e : hitN (n.drop j) but (y.getD i ((0, 0, ()), 0, ())) = (hit (n.getD j (0, 0, ())) but (y.getD i ((0, 0, ()), 0, ())) || hitN (n.drop (j + 1)) but (y.getD i ((0, 0, ()), 0, ()))) := by
      rw [drop_getD' (0, 0, ()) hlt]; simp [hitN]
    rw [vokref10_Set_Clash.l2_eq, e]
    by_cases ho : (y.getD i ((0, 0, ()), 0, ())).2.1 = but
    · have hh : hit (n.getD j (0, 0, ())) but (y.getD i ((0, 0, ()), 0, ())) = false := by unfold hit; simp (disch := omega) only [dp, dn, decide_true, decide_false, cond_true, cond_false, Bool.not_true, Bool.not_false, Bool.true_and, Bool.false_and, Bool.and_true, Bool.and_false, Bool.true_or, Bool.false_or, Bool.or_true, Bool.or_false, wr, Option.bind_some, tn_add, tn_add1, tn_sub1, tn_0, tn_1, Int.toNat_natCast, ne_eq, ho, not_true_eq_false]
      simp (disch := omega) only [dp, dn, decide_true, decide_false, cond_true, cond_false, Bool.not_true, Bool.not_false, Bool.true_and, Bool.false_and, Bool.and_true, Bool.and_false, Bool.true_or, Bool.false_or, Bool.or_true, Bool.or_false, wr, Option.bind_some, tn_add, tn_add1, tn_sub1, tn_0, tn_1, Int.toNat_natCast, hh, vokref10_Set_Clash.l3_eq]
      exact ih (j + 1) (by omega) (by omega)
    · by_cases hc : (y.getD i ((0, 0, ()), 0, ())).1.1 < (n.getD j (0, 0, ())).2.1
      · by_cases hc2 : (n.getD j (0, 0, ())).1 < (y.getD i ((0, 0, ()), 0, ())).1.2.1
        · have hh : hit (n.getD j (0, 0, ())) but (y.getD i ((0, 0, ()), 0, ())) = true := by unfold hit; simp (disch := omega) only [dp, dn, decide_true, decide_false, cond_true, cond_false, Bool.not_true, Bool.not_false, Bool.true_and, Bool.false_and, Bool.and_true, Bool.and_false, Bool.true_or, Bool.false_or, Bool.or_true, Bool.or_false, wr, Option.bind_some, tn_add, tn_add1, tn_sub1, tn_0, tn_1, Int.toNat_natCast, ne_eq]
          simp (disch := omega) only [dp, dn, decide_true, decide_false, cond_true, cond_false, Bool.not_true, Bool.not_false, Bool.true_and, Bool.false_and, Bool.and_true, Bool.and_false, Bool.true_or, Bool.false_or, Bool.or_true, Bool.or_false, wr, Option.bind_some, tn_add, tn_add1, tn_sub1, tn_0, tn_1, Int.toNat_natCast, hh, vokref10_overlap.f_eq, vokref10_Set_Clash.l3_eq, if_true]
        · have hh : hit (n.getD j (0, 0, ())) but (y.getD i ((0, 0, ()), 0, ())) = false := by unfold hit; simp (disch := omega) only [dp, dn, decide_true, decide_false, cond_true, cond_false, Bool.not_true, Bool.not_false, Bool.true_and, Bool.false_and, Bool.and_true, Bool.and_false, Bool.true_or, Bool.false_or, Bool.or_true, Bool.or_false, wr, Option.bind_some, tn_add, tn_add1, tn_sub1, tn_0, tn_1, Int.toNat_natCast, ne_eq]
          simp (disch := omega) only [dp, dn, decide_true, decide_false, cond_true, cond_false, Bool.not_true, Bool.not_false, Bool.true_and, Bool.false_and, Bool.and_true, Bool.and_false, Bool.true_or, Bool.false_or, Bool.or_true, Bool.or_false, wr, Option.bind_some, tn_add, tn_add1, tn_sub1, tn_0, tn_1, Int.toNat_natCast, hh, vokref10_overlap.f_eq, vokref10_Set_Clash.l3_eq]
          exact ih (j + 1) (by omega) (by omega)
      · have hh : hit (n.getD j (0, 0, ())) but (y.getD i ((0, 0, ()), 0, ())) = false := by unfold hit; simp (disch := omega) only [dp, dn, decide_true, decide_false, cond_true, cond_false, Bool.not_true, Bool.not_false, Bool.true_and, Bool.false_and, Bool.and_true, Bool.and_false, Bool.true_or, Bool.false_or, Bool.or_true, Bool.or_false, wr, Option.bind_some, tn_add, tn_add1, tn_sub1, tn_0, tn_1, Int.toNat_natCast, ne_eq]
        simp (disch := omega) only [dp, dn, decide_true, decide_false, cond_true, cond_false, Bool.not_true, Bool.not_false, Bool.true_and, Bool.false_and, Bool.and_true, Bool.and_false, Bool.true_or, Bool.false_or, Bool.or_true, Bool.or_false, wr, Option.bind_some, tn_add, tn_add1, tn_sub1, tn_0, tn_1, Int.toNat_natCast, hh, vokref10_overlap.f_eq, vokref10_Set_Clash.l3_eq]
        exact ih (j + 1) (by omega) (by omega)
theorem rclash_l1 (n : List Sp) (hn : n.length ≤ 1000000) (but : Int) (y : List Tg) (hl : y.length ≤ 1000000) : ∀ (k i : Nat), y.length - i = k → i ≤ y.length →
    vokref10_Set_Clash.l1 but n i y 0 0 0 = some ((told ((y.drop i).find? (hitN n but))).1, (told ((y.drop i).find? (hitN n but))).2, (y, ()), ()) := by
  intro k
  induction k with
  | zero =>
    intro i hk hi
    have e : i = y.length := by omega
    subst e
    rw [vokref10_Set_Clash.l1_eq]
    simp (disch := omega) only [dp, dn, decide_true, decide_false, cond_true, cond_false, Bool.not_true, Bool.not_false, Bool.true_and, Bool.false_and, Bool.and_true, Bool.and_false, Bool.true_or, Bool.false_or, Bool.or_true, Bool.or_false, wr, Option.bind_some, tn_add, tn_add1, tn_sub1, tn_0, tn_1, Int.toNat_natCast, List.drop_length]
    rfl
  | succ k ih =>
    intro i hk hi
    have hlt : i < y.length := by omega
    have h := rclash_l2 n hn but y hl i hlt 0 0 0 _ 0 rfl (Nat.zero_le _)
    rw [List.drop_zero, Int.natCast_zero] at h
    rw [vokref10_Set_Clash.l1_eq, drop_getD' ((0, 0, ()), 0, ()) hlt, List.find?_cons]
    simp (disch := omega) only [dp, dn, decide_true, decide_false, cond_true, cond_false, Bool.not_true, Bool.not_false, Bool.true_and, Bool.false_and, Bool.and_true, Bool.and_false, Bool.true_or, Bool.false_or, Bool.or_true, Bool.or_false, wr, Option.bind_some, tn_add, tn_add1, tn_sub1, tn_0, tn_1, Int.toNat_natCast, h]
    cases hh : hitN n but (y.getD i ((0, 0, ()), 0, ())) with
    | true => rfl
    | false => exact ih (i + 1) (by omega) (by omega)
theorem rClash_spec {l : List Tg} (hi : Inv l) (hl : l.length ≤ 1000000) (m n : List Sp) (hm : m.length ≤ 1000000) (hn : n.length ≤ 1000000) (hnn : nrm n) (h : iv_Norm.f m = some (n, ())) (but : Int) :
    vokref10_Set_Clash.f (l, ()) m but = some ((told (clashP l n but)).1, (told (clashP l n but)).2, (l, ()), ()) := by
  rw [vokref10_Set_Clash.f_eq, norm_same m hm, h, Option.bind_some, clash_first hi hnn]
  have := rclash_l1 n hn but l hl _ 0 rfl (Nat.zero_le _)
  rw [List.drop_zero] at this
  exact this
/-! ### Add -/
theorem put_l1 (y : List Tg) (hl : y.length ≤ 1000000) (a b c : Int) : ∀ k : Nat, k ≤ y.length →
    ∃ k' : Nat, k' ≤ k ∧ vokref10_Set_put.l1 k y a b c = vokref10_Set_put.l3 k' y a b c ∧ (∀ j, k' ≤ j → j < k → a < (y.getD j ((0, 0, ()), 0, ())).1.1) ∧ (k' = 0 ∨ (y.getD (k' - 1) ((0, 0, ()), 0, ())).1.1 ≤ a) := by
  intro k
  induction k with
  | zero =>
    intro _
    refine ⟨0, Nat.le_refl _, ?_, fun j h1 h2 => by omega, .inl rfl⟩
    rw [vokref10_Set_put.l1_eq]
    simp (disch := omega) only [dp, dn, decide_true, decide_false, cond_true, cond_false, Bool.not_true, Bool.not_false, Bool.true_and, Bool.false_and, Bool.and_true, Bool.and_false, Bool.true_or, Bool.false_or, Bool.or_true, Bool.or_false, wr, Option.bind_some, tn_add, tn_add1, tn_sub1, tn_0, tn_1, Int.toNat_natCast, vokref10_Set_put.l2_eq, Int.natCast_zero]
  | succ k ih =>
    intro hk
    rw [vokref10_Set_put.l1_eq]
    simp (disch := omega) only [dp, dn, decide_true, decide_false, cond_true, cond_false, Bool.not_true, Bool.not_false, Bool.true_and, Bool.false_and, Bool.and_true, Bool.and_false, Bool.true_or, Bool.false_or, Bool.or_true, Bool.or_false, wr, Option.bind_some, tn_add, tn_add1, tn_sub1, tn_0, tn_1, Int.toNat_natCast, vokref10_Set_put.l2_eq, Int.natCast_add, Int.natCast_one, Int.add_sub_cancel]
    by_cases hc : (y.getD k ((0, 0, ()), 0, ())).1.1 > a
    · simp (disch := omega) only [dp, dn, decide_true, decide_false, cond_true, cond_false, Bool.not_true, Bool.not_false, Bool.true_and, Bool.false_and, Bool.and_true, Bool.and_false, Bool.true_or, Bool.false_or, Bool.or_true, Bool.or_false, wr, Option.bind_some, tn_add, tn_add1, tn_sub1, tn_0, tn_1, Int.toNat_natCast]
      obtain ⟨k', h1, h2, h3, h4⟩ := ih (by omega)
      refine ⟨k', by omega, h2, fun j hj1 hj2 => ?_, h4⟩
      by_cases hjk : j = k
      · subst hjk; exact hc
      · exact h3 j hj1 (by omega)
    · simp (disch := omega) only [dp, dn, decide_true, decide_false, cond_true, cond_false, Bool.not_true, Bool.not_false, Bool.true_and, Bool.false_and, Bool.and_true, Bool.and_false, Bool.true_or, Bool.false_or, Bool.or_true, Bool.or_false, wr, Option.bind_some, tn_add, tn_add1, tn_sub1, tn_0, tn_1, Int.toNat_natCast]
      exact ⟨k + 1, Nat.le_refl _, rfl, fun j h1 h2 => by omega, .inr (by rw [Nat.add_sub_cancel]; omega)⟩
theorem put_spec (y : List Tg) (hl : y.length ≤ 1000000) (x : Tg) (hs : y.Pairwise fun a b => a.1.1 ≤ b.1.1) : ∃ r, vokref10_Set_put.f (y, ()) x = some ((r, ()), ()) ∧ r.Perm (x :: y) ∧ r.Pairwise fun a b => a.1.1 ≤ b.1.1 := by
  have hlim : limit = 17179869184 := rfl
  obtain ⟨q, h1, h2, h3, h4⟩ := put_l1 y hl x.1.1 x.1.2.1 x.2.1 y.length (Nat.le_refl _)
  obtain ⟨h5, h6⟩ := ins_place (fun s : Tg => s.1.1) hs x.1.1 ((0, 0, ()), 0, ()) h1 h3 h4
  refine ⟨y.take q ++ ([x] ++ y.drop q), ?_, ins_perm y x q, ins_sorted hs h5 fun a ha => Int.le_of_lt (h6 a ha)⟩
  rw [vokref10_Set_put.f_eq]
  show vokref10_Set_put.l1 (y.length : Int) y x.1.1 x.1.2.1 x.2.1 = _
  rw [h2, vokref10_Set_put.l3_eq]
  simp (disch := omega) only [dp, dn, decide_true, decide_false, cond_true, cond_false, Bool.not_true, Bool.not_false, Bool.true_and, Bool.false_and, Bool.and_true, Bool.and_false, Bool.true_or, Bool.false_or, Bool.or_true, Bool.or_false, wr, Option.bind_some, tn_add, tn_add1, tn_sub1, tn_0, tn_1, Int.toNat_natCast, List.nil_append, List.length_nil, List.length_append, List.length_singleton, List.length_take, List.length_drop, hlim]
  rw [List.append_assoc]
theorem radd_l2 (n : List Sp) (o : Int) (hn : n.length ≤ 1000000) : ∀ (k i : Nat) (y : List Tg), n.length - i = k → i ≤ n.length → y.length + (n.length - i) ≤ 1000000 → (y.Pairwise fun a b => a.1.1 ≤ b.1.1) →
    ∃ r, vokref10_Set_Add.l2 o n i y = some (true, (r, ()), ()) ∧ r.Perm (y ++ tags (n.drop i) o) ∧ r.Pairwise fun a b => a.1.1 ≤ b.1.1 := by
  intro k
  induction k with
  | zero =>
    intro i y hk hi hy hs
    have e : i = n.length := by omega
    subst e
    rw [vokref10_Set_Add.l2_eq]
    simp (disch := omega) only [dp, dn, decide_true, decide_false, cond_true, cond_false, Bool.not_true, Bool.not_false, Bool.true_and, Bool.false_and, Bool.and_true, Bool.and_false, Bool.true_or, Bool.false_or, Bool.or_true, Bool.or_false, wr, Option.bind_some, tn_add, tn_add1, tn_sub1, tn_0, tn_1, Int.toNat_natCast]
    exact ⟨y, rfl, by simp [tags], hs⟩
  | succ k ih =>
    intro i y hk hi hy hs
    have hlt : i < n.length := by omega
    obtain ⟨r, h1, h2, h3⟩ := put_spec y (by omega) ((n.getD i (0, 0, ())), o, ()) hs
    have hse : (((n.getD i (0, 0, ())).1, (n.getD i (0, 0, ())).2.1, ()) : Sp) = n.getD i (0, 0, ()) := rfl
    rw [vokref10_Set_Add.l2_eq]
    simp (disch := omega) only [dp, dn, decide_true, decide_false, cond_true, cond_false, Bool.not_true, Bool.not_false, Bool.true_and, Bool.false_and, Bool.and_true, Bool.and_false, Bool.true_or, Bool.false_or, Bool.or_true, Bool.or_false, wr, Option.bind_some, tn_add, tn_add1, tn_sub1, tn_0, tn_1, Int.toNat_natCast, hse, h1]
    obtain ⟨q, h4, h5, h6⟩ := ih (i + 1) r (by omega) (by omega) (by rw [h2.length_eq]; simp; omega) h3
    refine ⟨q, h4, h5.trans ?_, h6⟩
    rw [drop_getD' (0, 0, ()) hlt]
    refine (h2.append_right _).trans ?_
    show ((n.getD i (0, 0, ()), o, ()) :: (y ++ tags (n.drop (i + 1)) o)).Perm (y ++ ((n.getD i (0, 0, ()), o, ()) :: tags (n.drop (i + 1)) o))
    exact List.perm_middle.symm
theorem rAdd_same {l : List Tg} (hi : Inv l) (hl : l.length ≤ 100000) {m n : List Sp} (hm : m.length ≤ 100000) (hn : n.length ≤ 100000) (h : iv_Norm.f m = some (n, ())) (hnn : nrm n) {o : Int} {b : Bool} {r : List Tg} (ha : Added l n o b r) :
    vokref10_Set_Add.f (l, ()) m o = some (b, (r, ()), ()) := by
  have hc := rClash_spec hi (by omega) m n (by omega) (by omega) hnn h 0
  have hh := rhas_spec l (by omega) o
  rw [vokref10_Set_Add.f_eq]
  cases ha with
  | no h1 =>
    by_cases ho : o < 1
    · simp (disch := omega) only [dp, dn, decide_true, decide_false, cond_true, cond_false, Bool.not_true, Bool.not_false, Bool.true_and, Bool.false_and, Bool.and_true, Bool.and_false, Bool.true_or, Bool.false_or, Bool.or_true, Bool.or_false, wr, Option.bind_some, tn_add, tn_add1, tn_sub1, tn_0, tn_1, Int.toNat_natCast, vokref10_Set_Add.l1_eq]
    · simp (disch := omega) only [dp, dn, decide_true, decide_false, cond_true, cond_false, Bool.not_true, Bool.not_false, Bool.true_and, Bool.false_and, Bool.and_true, Bool.and_false, Bool.true_or, Bool.false_or, Bool.or_true, Bool.or_false, wr, Option.bind_some, tn_add, tn_add1, tn_sub1, tn_0, tn_1, Int.toNat_natCast, hh, vokref10_Set_Add.l1_eq]
      cases hb : hasO l o with
      | true => rfl
      | false =>
        rcases h1 with h1 | h1 | h1
        · omega
        · rw [hb] at h1; cases h1
        · simp (disch := omega) only [dp, dn, decide_true, decide_false, cond_true, cond_false, Bool.not_true, Bool.not_false, Bool.true_and, Bool.false_and, Bool.and_true, Bool.and_false, Bool.true_or, Bool.false_or, Bool.or_true, Bool.or_false, wr, Option.bind_some, tn_add, tn_add1, tn_sub1, tn_0, tn_1, Int.toNat_natCast, hc]
          cases hp : clashP l n 0 with
          | none => rw [hp] at h1; cases h1
          | some t => rfl
  | yes r h1 h2 h3 h4 h5 =>
    obtain ⟨q, h6, h7, h8⟩ := radd_l2 n o (by omega) _ 0 l rfl (Nat.zero_le _) (by omega) hi.le
    rw [List.drop_zero] at h7
    rw [Int.natCast_zero] at h6
    have hq := inv_of hi hnn h1 h2 h3 h7 h8
    have e : q = r := sorted_uniq (fun x : Tg => x.1.1) (h7.trans h4.symm) hq.lt h5.lt
    rw [e] at h6
    simp (disch := omega) only [dp, dn, decide_true, decide_false, cond_true, cond_false, Bool.not_true, Bool.not_false, Bool.true_and, Bool.false_and, Bool.and_true, Bool.and_false, Bool.true_or, Bool.false_or, Bool.or_true, Bool.or_false, wr, Option.bind_some, tn_add, tn_add1, tn_sub1, tn_0, tn_1, Int.toNat_natCast, hh, h2, vokref10_Set_Add.l1_eq, hc, h3, told, norm_same m (show m.length ≤ 1000000 by omega), h, h6]
/-! ### Remove, Cut, Owners -/
theorem rrem_l1 (o : Int) (l : List Tg) (hl : l.length ≤ 1000000) : ∀ (k i : Nat) (y : List Tg), l.length - i = k → i ≤ l.length → y.length ≤ i →
    vokref10_Set_Remove.l1 o i l y = vokref10_Set_Remove.l1 o l.length l (y ++ (l.drop i).filter (keepO o)) := by
  have hlim : limit = 17179869184 := rfl
  intro k
  induction k with
  | zero =>
    intro i y hk hi hy
    have e : i = l.length := by omega
    subst e
    simp
  | succ k ih =>
    intro i y hk hi hy
    have hlt : i < l.length := by omega
    rw [vokref10_Set_Remove.l1_eq, drop_getD' ((0, 0, ()), 0, ()) hlt, List.filter_cons]
    by_cases ho : (l.getD i ((0, 0, ()), 0, ())).2.1 = o
    · have hf : keepO o (l.getD i ((0, 0, ()), 0, ())) = false := by unfold keepO; simp (disch := omega) only [dp, dn, decide_true, decide_false, cond_true, cond_false, Bool.not_true, Bool.not_false, Bool.true_and, Bool.false_and, Bool.and_true, Bool.and_false, Bool.true_or, Bool.false_or, Bool.or_true, Bool.or_false, wr, Option.bind_some, tn_add, tn_add1, tn_sub1, tn_0, tn_1, Int.toNat_natCast]
      simp (disch := omega) only [dp, dn, decide_true, decide_false, cond_true, cond_false, Bool.not_true, Bool.not_false, Bool.true_and, Bool.false_and, Bool.and_true, Bool.and_false, Bool.true_or, Bool.false_or, Bool.or_true, Bool.or_false, wr, Option.bind_some, tn_add, tn_add1, tn_sub1, tn_0, tn_1, Int.toNat_natCast, hf, Bool.false_eq_true, if_false]
      exact ih (i + 1) y (by omega) (by omega) (by omega)
    · have hf : keepO o (l.getD i ((0, 0, ()), 0, ())) = true := by unfold keepO; simp (disch := omega) only [dp, dn, decide_true, decide_false, cond_true, cond_false, Bool.not_true, Bool.not_false, Bool.true_and, Bool.false_and, Bool.and_true, Bool.and_false, Bool.true_or, Bool.false_or, Bool.or_true, Bool.or_false, wr, Option.bind_some, tn_add, tn_add1, tn_sub1, tn_0, tn_1, Int.toNat_natCast]
      simp (disch := omega) only [dp, dn, decide_true, decide_false, cond_true, cond_false, Bool.not_true, Bool.not_false, Bool.true_and, Bool.false_and, Bool.and_true, Bool.and_false, Bool.true_or, Bool.false_or, Bool.or_true, Bool.or_false, wr, Option.bind_some, tn_add, tn_add1, tn_sub1, tn_0, tn_1, Int.toNat_natCast, hf, if_true, List.length_singleton, hlim]
      exact (ih (i + 1) (y ++ [l.getD i ((0, 0, ()), 0, ())]) (by omega) (by omega) (by simp; omega)).trans (by simp)
theorem rRemove_spec (l : List Tg) (hl : l.length ≤ 1000000) (o : Int) : vokref10_Set_Remove.f (l, ()) o = some ((l.length : Int) - ((l.filter (keepO o)).length : Int), (l.filter (keepO o), ()), ()) := by
  have h := rrem_l1 o l hl _ 0 [] rfl (Nat.zero_le _) (Nat.le_refl _)
  rw [List.drop_zero, List.nil_append, Int.natCast_zero] at h
  have hle : (l.filter (keepO o)).length ≤ l.length := List.length_filter_le _ _
  rw [vokref10_Set_Remove.f_eq, h, vokref10_Set_Remove.l1_eq]
  simp (disch := omega) only [dp, dn, decide_true, decide_false, cond_true, cond_false, Bool.not_true, Bool.not_false, Bool.true_and, Bool.false_and, Bool.and_true, Bool.and_false, Bool.true_or, Bool.false_or, Bool.or_true, Bool.or_false, wr, Option.bind_some, tn_add, tn_add1, tn_sub1, tn_0, tn_1, Int.toNat_natCast]
theorem rcut_l1 (l : List Tg) (hl : l.length ≤ 1000000) (lo hi : Int) : ∀ (k i : Nat) (y : List Sp), l.length - i = k → i ≤ l.length → y.length ≤ i →
    vokref10_Set_Cut.l1 lo hi i l y = (vokref6_Norm.f (y ++ cutL (l.drop i) lo hi)).bind fun t => some (t.1, (l, ()), ()) := by
  have hlim : limit = 17179869184 := rfl
  intro k
  induction k with
  | zero =>
    intro i y hk hi' hy
    have e : i = l.length := by omega
    subst e
    rw [vokref10_Set_Cut.l1_eq]
    simp (disch := omega) only [dp, dn, decide_true, decide_false, cond_true, cond_false, Bool.not_true, Bool.not_false, Bool.true_and, Bool.false_and, Bool.and_true, Bool.and_false, Bool.true_or, Bool.false_or, Bool.or_true, Bool.or_false, wr, Option.bind_some, tn_add, tn_add1, tn_sub1, tn_0, tn_1, Int.toNat_natCast, List.drop_length, cutL, List.map_nil, List.append_nil]
  | succ k ih =>
    intro i y hk hi' hy
    have hlt : i < l.length := by omega
    rw [vokref10_Set_Cut.l1_eq, drop_getD' ((0, 0, ()), 0, ()) hlt]
    simp (disch := omega) only [dp, dn, decide_true, decide_false, cond_true, cond_false, Bool.not_true, Bool.not_false, Bool.true_and, Bool.false_and, Bool.and_true, Bool.and_false, Bool.true_or, Bool.false_or, Bool.or_true, Bool.or_false, wr, Option.bind_some, tn_add, tn_add1, tn_sub1, tn_0, tn_1, Int.toNat_natCast, List.length_singleton, hlim, mm_max, mm_min]
    exact (ih (i + 1) (y ++ [(max (l.getD i ((0, 0, ()), 0, ())).1.1 lo, min (l.getD i ((0, 0, ()), 0, ())).1.2.1 hi, ())]) (by omega) (by omega) (by simp; omega)).trans (by simp [cutL])
theorem rCut_spec (l : List Tg) (hl : l.length ≤ 1000000) (lo hi : Int) {r : List Sp} (h : iv_Norm.f (cutL l lo hi) = some (r, ())) : vokref10_Set_Cut.f (l, ()) lo hi = some (r, (l, ()), ()) := by
  have h1 := rcut_l1 l hl lo hi _ 0 [] rfl (Nat.zero_le _) (Nat.le_refl _)
  rw [List.drop_zero, List.nil_append, Int.natCast_zero, norm_same _ (by simp [cutL]; omega), h] at h1
  rw [vokref10_Set_Cut.f_eq]
  exact h1
theorem rown_l1 (l : List Tg) (hl : l.length ≤ 1000000) : ∀ (k i : Nat) (y : List Int), l.length - i = k → i ≤ l.length → y.length ≤ i →
    vokref10_Set_Owners.l1 i l y = vokref10_Set_Owners.l1 l.length l (y ++ (l.drop i).map fun t => t.2.1) := by
  have hlim : limit = 17179869184 := rfl
  intro k
  induction k with
  | zero =>
    intro i y hk hi hy
    have e : i = l.length := by omega
    subst e
    simp
  | succ k ih =>
    intro i y hk hi hy
    have hlt : i < l.length := by omega
    rw [vokref10_Set_Owners.l1_eq, drop_getD' ((0, 0, ()), 0, ()) hlt]
    simp (disch := omega) only [dp, dn, decide_true, decide_false, cond_true, cond_false, Bool.not_true, Bool.not_false, Bool.true_and, Bool.false_and, Bool.and_true, Bool.and_false, Bool.true_or, Bool.false_or, Bool.or_true, Bool.or_false, wr, Option.bind_some, tn_add, tn_add1, tn_sub1, tn_0, tn_1, Int.toNat_natCast, List.length_singleton, hlim]
    exact (ih (i + 1) (y ++ [(l.getD i ((0, 0, ()), 0, ())).2.1]) (by omega) (by omega) (by simp; omega)).trans (by simp)
theorem rOwners_spec (l : List Tg) (hl : l.length ≤ 1000000) {q : List Int} (hq : isOw l q) : vokref10_Set_Owners.f (l, ()) = some (q, (l, ()), ()) := by
  have h := rown_l1 l hl _ 0 [] rfl (Nat.zero_le _) (Nat.le_refl _)
  rw [List.drop_zero, List.nil_append, Int.natCast_zero] at h
  obtain ⟨r, h1, h2, h3⟩ := Sorted_spec (l.map fun t => t.2.1) (by simp; omega)
  have e : r = q := rises_uniq h2 hq.1 fun x => by rw [h3, hq.2, List.mem_map]
  rw [e] at h1
  rw [vokref10_Set_Owners.f_eq, h, vokref10_Set_Owners.l1_eq]
  simp (disch := omega) only [dp, dn, decide_true, decide_false, cond_true, cond_false, Bool.not_true, Bool.not_false, Bool.true_and, Bool.false_and, Bool.and_true, Bool.and_false, Bool.true_or, Bool.false_or, Bool.or_true, Bool.or_false, wr, Option.bind_some, tn_add, tn_add1, tn_sub1, tn_0, tn_1, Int.toNat_natCast, h1]
/-! ### Lists alike -/
theorem tagged_same (a : List Tg) (ha : a.length ≤ 1000000) : voklaw10_tagged.f a a = some (true, ()) := by
  have key : ∀ (k i : Nat), a.length - i = k → i ≤ a.length → voklaw10_tagged.l1 a a i = some (true, ()) := by
    intro k
    induction k with
    | zero =>
      intro i hk hi
      rw [voklaw10_tagged.l1_eq]
      simp (disch := omega) only [dp, dn, decide_true, decide_false, cond_true, cond_false, Bool.not_true, Bool.not_false, Bool.true_and, Bool.false_and, Bool.and_true, Bool.and_false, Bool.true_or, Bool.false_or, Bool.or_true, Bool.or_false, wr, Option.bind_some, tn_add, tn_add1, tn_sub1, tn_0, tn_1, Int.toNat_natCast]
    | succ k ih =>
      intro i hk hi
      rw [voklaw10_tagged.l1_eq]
      simp (disch := omega) only [dp, dn, decide_true, decide_false, cond_true, cond_false, Bool.not_true, Bool.not_false, Bool.true_and, Bool.false_and, Bool.and_true, Bool.and_false, Bool.true_or, Bool.false_or, Bool.or_true, Bool.or_false, wr, Option.bind_some, tn_add, tn_add1, tn_sub1, tn_0, tn_1, Int.toNat_natCast, voklaw10_tagged.l2_eq]
      exact ih (i + 1) (by omega) (by omega)
  rw [voklaw10_tagged.f_eq]
  have := key _ 0 rfl (Nat.zero_le _)
  rw [show ((0 : Nat) : Int) = 0 from rfl] at this
  simp (disch := omega) only [dp, dn, decide_true, decide_false, cond_true, cond_false, Bool.not_true, Bool.not_false, Bool.true_and, Bool.false_and, Bool.and_true, Bool.and_false, Bool.true_or, Bool.false_or, Bool.or_true, Bool.or_false, wr, Option.bind_some, tn_add, tn_add1, tn_sub1, tn_0, tn_1, Int.toNat_natCast, this]
end Go.GV.Ytpffinebjiopaaa
