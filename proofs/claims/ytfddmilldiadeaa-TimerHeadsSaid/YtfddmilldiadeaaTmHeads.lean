/-
TimerHeads: the next one is the least. (This session's own text.)
-/
import Derived.Test.YtfddmilldiadeaaTmQueue
set_option linter.unusedVariables false
set_option linter.unusedSimpArgs false
namespace Go.GV.Ytfddmilldiadeaa
open Go.Proofs
def conv (o : Int × Int × Int × Unit) : It := (o.2.1, o.2.2.1, ())
theorem hd_l2 (l : List (Int × Int × Int × Unit)) (hl : l.length ≤ 300) (i : Nat) (hi : i < l.length) (y : List It) (x : It) (hle : ∀ j, j ≤ i → le x (conv (l.getD j ((0, 0, 0, ()) : Int × Int × Int × Unit)))) : ∀ (k q : Nat) (met : Bool), i + 1 - q = k → q ≤ i + 1 → (met = true ∨ ∃ j, q ≤ j ∧ j ≤ i ∧ conv (l.getD j ((0, 0, 0, ()) : Int × Int × Int × Unit)) = x) →
    voklaw11_TimerHeads.l2 l i met q y x.1 x.2.1 = voklaw11_TimerHeads.l1 l (i + 1 : Nat) y := by
  intro k
  induction k with
  | zero =>
    intro q met hk hq hm
    have hm : met = true := hm.resolve_right fun ⟨j, h1, h2, _⟩ => by omega
    subst hm
    rw [voklaw11_TimerHeads.l2_eq]
    simp (disch := omega) only [dp, dn, decide_true, decide_false, cond_true, cond_false, Bool.not_true, Bool.not_false, Bool.true_and, Bool.false_and, Bool.and_true, Bool.and_false, Bool.true_or, Bool.false_or, Bool.or_true, Bool.or_false, wr, Option.bind_some, tn_add, tn_add1, tn_sub1, tn_0, tn_1, Int.toNat_natCast]
    rfl
  | succ k ih =>
    intro q met hk hq hm
    have hle2 := hle q (by omega)
    unfold le lt conv at hle2
    simp only at hle2
    rw [voklaw11_TimerHeads.l2_eq]
    have l3 : voklaw11_TimerHeads.l3 l i met q false y x.1 x.2.1 = voklaw11_TimerHeads.l1 l (i + 1 : Nat) y := by
      rw [voklaw11_TimerHeads.l3_eq]
      cases met with
      | true =>
        simp (disch := omega) only [dp, dn, decide_true, decide_false, cond_true, cond_false, Bool.not_true, Bool.not_false, Bool.true_and, Bool.false_and, Bool.and_true, Bool.and_false, Bool.true_or, Bool.false_or, Bool.or_true, Bool.or_false, wr, Option.bind_some, tn_add, tn_add1, tn_sub1, tn_0, tn_1, Int.toNat_natCast]
        exact ih (q + 1) true (by omega) (by omega) (.inl rfl)
      | false =>
        have hm := hm.resolve_left (by simp)
        have nx : conv (l.getD q ((0, 0, 0, ()) : Int × Int × Int × Unit)) ≠ x → (false = true ∨ ∃ j, q + 1 ≤ j ∧ j ≤ i ∧ conv (l.getD j ((0, 0, 0, ()) : Int × Int × Int × Unit)) = x) := fun hne => by
          obtain ⟨j, h1, h2, h3⟩ := hm
          by_cases e : j = q
          · subst e; exact absurd h3 hne
          · exact .inr ⟨j, by omega, h2, h3⟩
        by_cases c1 : (l.getD q ((0, 0, 0, ()) : Int × Int × Int × Unit)).2.1 = x.1
        · by_cases c2 : (l.getD q ((0, 0, 0, ()) : Int × Int × Int × Unit)).2.2.1 = x.2.1
          · simp (disch := omega) only [dp, dn, decide_true, decide_false, cond_true, cond_false, Bool.not_true, Bool.not_false, Bool.true_and, Bool.false_and, Bool.and_true, Bool.and_false, Bool.true_or, Bool.false_or, Bool.or_true, Bool.or_false, wr, Option.bind_some, tn_add, tn_add1, tn_sub1, tn_0, tn_1, Int.toNat_natCast]
            exact ih (q + 1) true (by omega) (by omega) (.inl rfl)
          · simp (disch := omega) only [dp, dn, decide_true, decide_false, cond_true, cond_false, Bool.not_true, Bool.not_false, Bool.true_and, Bool.false_and, Bool.and_true, Bool.and_false, Bool.true_or, Bool.false_or, Bool.or_true, Bool.or_false, wr, Option.bind_some, tn_add, tn_add1, tn_sub1, tn_0, tn_1, Int.toNat_natCast]
            exact ih (q + 1) false (by omega) (by omega) (nx fun e => c2 (by rw [← e]; rfl))
        · simp (disch := omega) only [dp, dn, decide_true, decide_false, cond_true, cond_false, Bool.not_true, Bool.not_false, Bool.true_and, Bool.false_and, Bool.and_true, Bool.and_false, Bool.true_or, Bool.false_or, Bool.or_true, Bool.or_false, wr, Option.bind_some, tn_add, tn_add1, tn_sub1, tn_0, tn_1, Int.toNat_natCast]
          exact ih (q + 1) false (by omega) (by omega) (nx fun e => c1 (by rw [← e]; rfl))
    by_cases c1 : (l.getD q ((0, 0, 0, ()) : Int × Int × Int × Unit)).2.1 = x.1
    · simp (disch := omega) only [dp, dn, decide_true, decide_false, cond_true, cond_false, Bool.not_true, Bool.not_false, Bool.true_and, Bool.false_and, Bool.and_true, Bool.and_false, Bool.true_or, Bool.false_or, Bool.or_true, Bool.or_false, wr, Option.bind_some, tn_add, tn_add1, tn_sub1, tn_0, tn_1, Int.toNat_natCast, l3]
    · simp (disch := omega) only [dp, dn, decide_true, decide_false, cond_true, cond_false, Bool.not_true, Bool.not_false, Bool.true_and, Bool.false_and, Bool.and_true, Bool.and_false, Bool.true_or, Bool.false_or, Bool.or_true, Bool.or_false, wr, Option.bind_some, tn_add, tn_add1, tn_sub1, tn_0, tn_1, Int.toNat_natCast, l3]
theorem hd_l1 (l : List (Int × Int × Int × Unit)) (hl : l.length ≤ 300) : ∀ (k i : Nat) (y : List It), l.length - i = k → i ≤ l.length → Hq y → y.Perm ((l.take i).map conv) → voklaw11_TimerHeads.l1 l i y = some (true, ()) := by
  intro k
  induction k with
  | zero =>
    intro i y hk hi hy hp
    have hlen := hp.length_eq
    rw [List.length_map, List.length_take] at hlen
    rw [voklaw11_TimerHeads.l1_eq]
    by_cases h0 : y.length = 0
    · have e := nil_of_len h0
      subst e
      simp (disch := omega) only [dp, dn, decide_true, decide_false, cond_true, cond_false, Bool.not_true, Bool.not_false, Bool.true_and, Bool.false_and, Bool.and_true, Bool.and_false, Bool.true_or, Bool.false_or, Bool.or_true, Bool.or_false, wr, Option.bind_some, tn_add, tn_add1, tn_sub1, tn_0, tn_1, Int.toNat_natCast, Next_nil, first_true]
    · have hN := Next_spec y (by omega)
      have hw : IntKind.i64.wrap ((l.length : Int) - 1) = (l.length : Int) - 1 := wr (by omega) (by omega)
      rcases QPop_spec y (by omega) hy (y.getD 0 ((0, 0, ()) : Int × Int × Unit)).1 with ⟨h1, h2⟩ | ⟨_, r, h2, h3, h4⟩
      · omega
      · have hrl := h3.length_eq
        simp only [List.length_cons] at hrl
        simp (disch := omega) only [dp, dn, decide_true, decide_false, cond_true, cond_false, Bool.not_true, Bool.not_false, Bool.true_and, Bool.false_and, Bool.and_true, Bool.and_false, Bool.true_or, Bool.false_or, Bool.or_true, Bool.or_false, wr, Option.bind_some, tn_add, tn_add1, tn_sub1, tn_0, tn_1, Int.toNat_natCast, hN, h2, first_true, hw, Len_eq]
  | succ k ih =>
    intro i y hk hi hy hp
    have hlt : i < l.length := by omega
    have hlen := hp.length_eq
    rw [List.length_map, List.length_take] at hlen
    obtain ⟨r, h1, h2, h3⟩ := Push_spec y (by omega) hy (l.getD i ((0, 0, 0, ()) : Int × Int × Int × Unit)).2.1 (l.getD i ((0, 0, 0, ()) : Int × Int × Int × Unit)).2.2.1
    have hp2 : r.Perm ((l.take (i + 1)).map conv) := by
      rw [take_getD' ((0, 0, 0, ()) : Int × Int × Int × Unit) hlt, List.map_append, List.map_singleton]
      exact h2.trans ((hp.cons _).trans (List.perm_append_singleton _ _).symm)
    have hrl := h2.length_eq
    simp only [List.length_cons] at hrl
    have hN := Next_spec r (by omega)
    have hm : r.getD 0 ((0, 0, ()) : Int × Int × Unit) ∈ (l.take (i + 1)).map conv := hp2.mem_iff.1 (getD_mem' ((0, 0, ()) : Int × Int × Unit) (by omega))
    obtain ⟨o, ho, he⟩ := List.mem_map.1 hm
    obtain ⟨j, hj, hoj⟩ := List.getElem_of_mem ho
    rw [List.length_take] at hj
    rw [List.getElem_take] at hoj
    have := hd_l2 l hl i hlt r (r.getD 0 ((0, 0, ()) : Int × Int × Unit)) (fun j hj => h3.least (hp2.mem_iff.2 (List.mem_map.2 ⟨_, by rw [getD_eq ((0, 0, 0, ()) : Int × Int × Int × Unit) (show j < l.length by omega)]; exact List.mem_take_iff_getElem.2 ⟨j, by omega, rfl⟩, rfl⟩))) _ 0 false rfl (Nat.zero_le _) (.inr ⟨j, Nat.zero_le _, by omega, by rw [getD_eq ((0, 0, 0, ()) : Int × Int × Int × Unit) (by omega), hoj, he]⟩)
    rw [Int.natCast_zero] at this
    rw [voklaw11_TimerHeads.l1_eq]
    simp (disch := omega) only [dp, dn, decide_true, decide_false, cond_true, cond_false, Bool.not_true, Bool.not_false, Bool.true_and, Bool.false_and, Bool.and_true, Bool.and_false, Bool.true_or, Bool.false_or, Bool.or_true, Bool.or_false, wr, Option.bind_some, tn_add, tn_add1, tn_sub1, tn_0, tn_1, Int.toNat_natCast, h1, hN, this]
    exact ih (i + 1) r (by omega) (by omega) h3 hp2
theorem TimerHeads_pure (l : List (Int × Int × Int × Unit)) : voklaw11_TimerHeads.f l = some (true, ()) := by
  rw [voklaw11_TimerHeads.f_eq]
  by_cases hl : (l.length : Int) > 300
  · simp (disch := omega) only [dp, dn, decide_true, decide_false, cond_true, cond_false, Bool.not_true, Bool.not_false, Bool.true_and, Bool.false_and, Bool.and_true, Bool.and_false, Bool.true_or, Bool.false_or, Bool.or_true, Bool.or_false, wr, Option.bind_some, tn_add, tn_add1, tn_sub1, tn_0, tn_1, Int.toNat_natCast, first_true, New_eq]
  · have := hd_l1 l (by omega) _ 0 [] rfl (Nat.zero_le _) Hq.nil (by simp)
    rw [Int.natCast_zero] at this
    simp (disch := omega) only [dp, dn, decide_true, decide_false, cond_true, cond_false, Bool.not_true, Bool.not_false, Bool.true_and, Bool.false_and, Bool.and_true, Bool.and_false, Bool.true_or, Bool.false_or, Bool.or_true, Bool.or_false, wr, Option.bind_some, tn_add, tn_add1, tn_sub1, tn_0, tn_1, Int.toNat_natCast, first_true, New_eq, this]
end Go.GV.Ytfddmilldiadeaa
