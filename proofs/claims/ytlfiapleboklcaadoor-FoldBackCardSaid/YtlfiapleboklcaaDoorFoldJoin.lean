/-
What fold.Join comes to; FoldJoins. (This session's own text.)
-/
import Derived.Test.YtlfiapleboklcaaDoorFoldSplits
set_option linter.unusedVariables false
set_option linter.unusedSimpArgs false
namespace Go.GV.YtlfiapleboklcaaDoor
open Go.Proofs
/-! ### Few and short -/
theorem few_l1 (L : List (List UInt8)) (hl : L.length ≤ 9223372036854775807) (hs : ∀ s ∈ L, s.length ≤ 9223372036854775807) : ∀ (k i x : Nat), L.length - i = k → i ≤ L.length → i ≤ 300 → x ≤ 6001 * i →
    ∃ b, voklaw4_few.l1 (L.map mkS) (x : Int) (i : Int) = some (b, ()) ∧ (b = true → L.length ≤ 300 ∧ x + tot (L.drop i) ≤ 6000) := by
  intro k
  have hend : ∀ x : Nat, ∃ b, voklaw4_few.l3 (L.map mkS) (x : Int) = some (b, ()) ∧ (b = true → L.length ≤ 300 ∧ x ≤ 6000) := by
    intro x
    rw [voklaw4_few.l3_eq]
    by_cases h : L.length ≤ 300
    · simp (disch := omega) only [dp, dn, decide_true, decide_false, cond_true, cond_false, Bool.not_true, Bool.not_false, Bool.true_and, Bool.false_and, Bool.and_true, Bool.and_false, Bool.true_or, Bool.false_or, Bool.or_true, Bool.or_false, wr, Option.bind_some, tn_add, tn_add1, tn_sub1, tn_0, tn_1, Int.toNat_natCast, List.length_map]
      exact ⟨_, rfl, fun hb => ⟨h, by have := of_decide_eq_true hb; omega⟩⟩
    · simp (disch := omega) only [dp, dn, decide_true, decide_false, cond_true, cond_false, Bool.not_true, Bool.not_false, Bool.true_and, Bool.false_and, Bool.and_true, Bool.and_false, Bool.true_or, Bool.false_or, Bool.or_true, Bool.or_false, wr, Option.bind_some, tn_add, tn_add1, tn_sub1, tn_0, tn_1, Int.toNat_natCast, List.length_map]
      exact ⟨_, rfl, fun hb => by cases hb⟩
  induction k with
  | zero =>
    intro i x hk hi h3 hx
    have e : i = L.length := by omega
    subst e
    rw [voklaw4_few.l1_eq]
    simp (disch := omega) only [dp, dn, decide_true, decide_false, cond_true, cond_false, Bool.not_true, Bool.not_false, Bool.true_and, Bool.false_and, Bool.and_true, Bool.and_false, Bool.true_or, Bool.false_or, Bool.or_true, Bool.or_false, wr, Option.bind_some, tn_add, tn_add1, tn_sub1, tn_0, tn_1, Int.toNat_natCast, List.length_map]
    rw [voklaw4_few.l2_eq]
    simp (disch := omega) only [dp, dn, decide_true, decide_false, cond_true, cond_false, Bool.not_true, Bool.not_false, Bool.true_and, Bool.false_and, Bool.and_true, Bool.and_false, Bool.true_or, Bool.false_or, Bool.or_true, Bool.or_false, wr, Option.bind_some, tn_add, tn_add1, tn_sub1, tn_0, tn_1, Int.toNat_natCast]
    rw [List.drop_length]
    exact hend x
  | succ k ih =>
    intro i x hk hi h3 hx
    have hlt : i < L.length := by omega
    rw [voklaw4_few.l1_eq]
    simp (disch := omega) only [dp, dn, decide_true, decide_false, cond_true, cond_false, Bool.not_true, Bool.not_false, Bool.true_and, Bool.false_and, Bool.and_true, Bool.and_false, Bool.true_or, Bool.false_or, Bool.or_true, Bool.or_false, wr, Option.bind_some, tn_add, tn_add1, tn_sub1, tn_0, tn_1, Int.toNat_natCast, List.length_map]
    by_cases h300 : i < 300
    · rw [voklaw4_few.l2_eq]
      have hsz : (L.getD i []).length ≤ 9223372036854775807 := hs _ (by rw [List.getD_eq_getElem?_getD, List.getElem?_eq_getElem hlt]; exact List.getElem_mem hlt)
      have hmm : mm false (((L.getD i []).length : Nat) : Int) 6001 = ((min (L.getD i []).length 6001 : Nat) : Int) := by
        simp only [mm, cond_false]
        split <;> omega
      simp (disch := omega) only [dp, dn, decide_true, decide_false, cond_true, cond_false, Bool.not_true, Bool.not_false, Bool.true_and, Bool.false_and, Bool.and_true, Bool.and_false, Bool.true_or, Bool.false_or, Bool.or_true, Bool.or_false, wr, Option.bind_some, tn_add, tn_add1, tn_sub1, tn_0, tn_1, Int.toNat_natCast, List.length_map]
      rw [map_getD mkS L i [] _ hlt, szS, hmm]
      have hmin : min (L.getD i []).length 6001 ≤ 6001 := by omega
      obtain ⟨b, h1, h2⟩ := ih (i + 1) (x + min (L.getD i []).length 6001) (by omega) (by omega) (by omega) (by omega)
      rw [Int.natCast_add, Int.natCast_add, Int.natCast_one] at h1
      simp (disch := omega) only [dp, dn, decide_true, decide_false, cond_true, cond_false, Bool.not_true, Bool.not_false, Bool.true_and, Bool.false_and, Bool.and_true, Bool.and_false, Bool.true_or, Bool.false_or, Bool.or_true, Bool.or_false, wr, Option.bind_some, tn_add, tn_add1, tn_sub1, tn_0, tn_1, Int.toNat_natCast, h1]
      refine ⟨b, rfl, fun hb => ?_⟩
      obtain ⟨h4, h5⟩ := h2 hb
      have hd := drop_cons L i [] hlt
      rw [hd, tot_cons]
      omega
    · simp (disch := omega) only [dp, dn, decide_true, decide_false, cond_true, cond_false, Bool.not_true, Bool.not_false, Bool.true_and, Bool.false_and, Bool.and_true, Bool.and_false, Bool.true_or, Bool.false_or, Bool.or_true, Bool.or_false, wr, Option.bind_some, tn_add, tn_add1, tn_sub1, tn_0, tn_1, Int.toNat_natCast]
      rw [voklaw4_few.l2_eq]
      simp (disch := omega) only [dp, dn, decide_true, decide_false, cond_true, cond_false, Bool.not_true, Bool.not_false, Bool.true_and, Bool.false_and, Bool.and_true, Bool.and_false, Bool.true_or, Bool.false_or, Bool.or_true, Bool.or_false, wr, Option.bind_some, tn_add, tn_add1, tn_sub1, tn_0, tn_1, Int.toNat_natCast]
      rw [voklaw4_few.l3_eq]
      simp (disch := omega) only [dp, dn, decide_true, decide_false, cond_true, cond_false, Bool.not_true, Bool.not_false, Bool.true_and, Bool.false_and, Bool.and_true, Bool.and_false, Bool.true_or, Bool.false_or, Bool.or_true, Bool.or_false, wr, Option.bind_some, tn_add, tn_add1, tn_sub1, tn_0, tn_1, Int.toNat_natCast, List.length_map]
      exact ⟨_, rfl, fun hb => by cases hb⟩
theorem few_some (L : List (List UInt8)) (hl : L.length ≤ 9223372036854775807) (hs : ∀ s ∈ L, s.length ≤ 9223372036854775807) :
    ∃ b, voklaw4_few.f (L.map mkS) = some (b, ()) ∧ (b = true → L.length ≤ 300 ∧ tot L ≤ 6000) := by
  rw [voklaw4_few.f_eq]
  obtain ⟨b, h1, h2⟩ := few_l1 L hl hs L.length 0 0 rfl (Nat.zero_le _) (by omega) (by omega)
  exact ⟨b, h1, fun hb => by have := h2 hb; simpa using this⟩
/-! ### A line that may be -/
def mayB (s : List UInt8) : Bool := (s.all fun c => plB c.toNat) && (!s.isEmpty && !decide (s.head? = some 32))
theorem all_take (s : List UInt8) (i : Nat) (hi : i < s.length) (h : (s.take i).all (fun c => plB c.toNat) = true) (hc : plB (chr s i) = true) : (s.take (i + 1)).all (fun c => plB c.toNat) = true := by
  rw [List.take_add_one, List.all_append, h]
  have : s[i]? = some (s.getD i 0) := by simp [List.getD_eq_getElem?_getD, hi]
  rw [this]
  simp only [Option.toList, List.all_cons, List.all_nil, Bool.and_true, Bool.true_and]
  exact hc
theorem all_false (s : List UInt8) (i : Nat) (hi : i < s.length) (hc : plB (chr s i) = false) : s.all (fun c => plB c.toNat) = false := by
  rw [List.all_eq_false]
  exact ⟨s.getD i 0, by rw [List.getD_eq_getElem?_getD, List.getElem?_eq_getElem hi]; exact List.getElem_mem hi, by
    have : plB (s.getD i 0).toNat = false := hc
    rw [this]
    exact Bool.false_ne_true⟩
theorem head_chr (s : List UInt8) (hs : s ≠ []) : decide (s.head? = some 32) = decide ((chr s 0 : Int) = 32) := by
  cases s with
  | nil => exact absurd rfl hs
  | cons x y =>
    refine decide_eq_decide.2 ?_
    have := u8_eq x 32 (by omega)
    simp only [List.head?_cons, Option.some.injEq]
    exact this.symm
theorem may_eq (s : List UInt8) (hs : s.length < 4611686018427387904) : fold_may.f (mkS s) = some (mayB s, ()) := by
  have key : ∀ (k i : Nat), s.length - i = k → i ≤ s.length → (s.take i).all (fun c => plB c.toNat) = true → fold_may.l1 (mkS s) (s.length : Int) (i : Int) = some (mayB s, ()) := by
    intro k
    induction k with
    | zero =>
      intro i hk hi h
      have e : i = s.length := by omega
      subst e
      rw [List.take_length] at h
      rw [fold_may.l1_eq, beq_S, szS]
      unfold mayB
      rw [h]
      cases s with
      | nil => simp; rfl
      | cons x y =>
        have hne : mkS (x :: y) ≠ (⟨#[]⟩ : ByteArray) := fun e => by have := congrArg B e; cases this
        have hb : bt (mkS (x :: y)) 0 = (chr (x :: y) 0 : Int) := rfl
        rw [head_chr _ (by simp), hb, dn hne]
        have : (x :: y).length = y.length + 1 := rfl
        simp (disch := omega) only [dp, dn, decide_true, decide_false, cond_true, cond_false, Bool.not_true, Bool.not_false, Bool.true_and, Bool.false_and, Bool.and_true, Bool.and_false, Bool.true_or, Bool.false_or, Bool.or_true, Bool.or_false, wr, Option.bind_some, tn_add, tn_add1, tn_sub1, tn_0, tn_1, Int.toNat_natCast]
        rfl
    | succ k ih =>
      intro i hk hi h
      have hlt : i < s.length := by omega
      have hb : bt (mkS s) (i : Int) = (chr s i : Int) := rfl
      rw [fold_may.l1_eq, hb, plain_eq]
      cases hc : plB (chr s i) with
      | true =>
        simp (disch := omega) only [dp, dn, decide_true, decide_false, cond_true, cond_false, Bool.not_true, Bool.not_false, Bool.true_and, Bool.false_and, Bool.and_true, Bool.and_false, Bool.true_or, Bool.false_or, Bool.or_true, Bool.or_false, wr, Option.bind_some, tn_add, tn_add1, tn_sub1, tn_0, tn_1, Int.toNat_natCast, szS]
        exact ih (i + 1) (by omega) (by omega) (all_take s i hlt h hc)
      | false =>
        simp (disch := omega) only [dp, dn, decide_true, decide_false, cond_true, cond_false, Bool.not_true, Bool.not_false, Bool.true_and, Bool.false_and, Bool.and_true, Bool.and_false, Bool.true_or, Bool.false_or, Bool.or_true, Bool.or_false, wr, Option.bind_some, tn_add, tn_add1, tn_sub1, tn_0, tn_1, Int.toNat_natCast, szS]
        unfold mayB
        rw [all_false s i hlt hc]
        rfl
  rw [fold_may.f_eq, szS]
  exact key s.length 0 rfl (Nat.zero_le _) rfl
/-! ### All lines may be, or one may not -/
theorem join_bad (L : List (List UInt8)) (hl : L.length < 100000) (hs : ∀ s ∈ L, s.length < 100000) {k : Nat} (hk : k < L.length) (hb : mayB (L.getD k []) = false) (h : ∀ i, i < k → mayB (L.getD i []) = true) : fold_Join.f (L.map mkS) = some ([], 4, ()) := by
  rw [fold_Join.f_eq, List.length_map]
  have hlen : ∀ i, i < L.length → (L.getD i []).length < 100000 := fun i hi => hs _ (by rw [List.getD_eq_getElem?_getD, List.getElem?_eq_getElem hi]; exact List.getElem_mem hi)
  have := loop_to (fun i : Nat => fold_Join.l1 (L.map mkS) (L.map mkS) (L.length : Int) i) (k := k) (i := 0) (Nat.zero_le _) fun j _ hj => by
    have hlt : j < L.length := by omega
    have := hlen j hlt
    show fold_Join.l1 (L.map mkS) (L.map mkS) (L.length : Int) (j : Nat) = _
    rw [fold_Join.l1_eq]
    simp (disch := omega) only [dp, dn, decide_true, decide_false, cond_true, cond_false, Bool.not_true, Bool.not_false, Bool.true_and, Bool.false_and, Bool.and_true, Bool.and_false, Bool.true_or, Bool.false_or, Bool.or_true, Bool.or_false, wr, Option.bind_some, tn_add, tn_add1, tn_sub1, tn_0, tn_1, Int.toNat_natCast, List.length_map]
    rw [map_getD mkS L j [] _ hlt, may_eq _ (by omega), h j hj]
    simp (disch := omega) only [dp, dn, decide_true, decide_false, cond_true, cond_false, Bool.not_true, Bool.not_false, Bool.true_and, Bool.false_and, Bool.and_true, Bool.and_false, Bool.true_or, Bool.false_or, Bool.or_true, Bool.or_false, wr, Option.bind_some, tn_add, tn_add1, tn_sub1, tn_0, tn_1, Int.toNat_natCast, Int.natCast_add, Int.natCast_one]
  refine this.trans ?_
  have := hlen k hk
  show fold_Join.l1 (L.map mkS) (L.map mkS) (L.length : Int) (k : Nat) = _
  rw [fold_Join.l1_eq]
  simp (disch := omega) only [dp, dn, decide_true, decide_false, cond_true, cond_false, Bool.not_true, Bool.not_false, Bool.true_and, Bool.false_and, Bool.and_true, Bool.and_false, Bool.true_or, Bool.false_or, Bool.or_true, Bool.or_false, wr, Option.bind_some, tn_add, tn_add1, tn_sub1, tn_0, tn_1, Int.toNat_natCast, List.length_map]
  rw [map_getD mkS L k [] _ hk, may_eq _ (by omega), hb]
  simp (disch := omega) only [dp, dn, decide_true, decide_false, cond_true, cond_false, Bool.not_true, Bool.not_false, Bool.true_and, Bool.false_and, Bool.and_true, Bool.and_false, Bool.true_or, Bool.false_or, Bool.or_true, Bool.or_false, wr, Option.bind_some, tn_add, tn_add1, tn_sub1, tn_0, tn_1, Int.toNat_natCast]
theorem join_good (L : List (List UInt8)) (hl : L.length < 100000) (hs : ∀ s ∈ L, s.length < 100000) (h : ∀ i, i < L.length → mayB (L.getD i []) = true) : fold_Join.f (L.map mkS) = fold_Join.l2 (L.map mkS) (L.length : Int) 0 [] := by
  rw [fold_Join.f_eq, List.length_map]
  have hlen : ∀ i, i < L.length → (L.getD i []).length < 100000 := fun i hi => hs _ (by rw [List.getD_eq_getElem?_getD, List.getElem?_eq_getElem hi]; exact List.getElem_mem hi)
  have := loop_to (fun i : Nat => fold_Join.l1 (L.map mkS) (L.map mkS) (L.length : Int) i) (k := L.length) (i := 0) (Nat.zero_le _) fun j _ hj => by
    have := hlen j hj
    show fold_Join.l1 (L.map mkS) (L.map mkS) (L.length : Int) (j : Nat) = _
    rw [fold_Join.l1_eq]
    simp (disch := omega) only [dp, dn, decide_true, decide_false, cond_true, cond_false, Bool.not_true, Bool.not_false, Bool.true_and, Bool.false_and, Bool.and_true, Bool.and_false, Bool.true_or, Bool.false_or, Bool.or_true, Bool.or_false, wr, Option.bind_some, tn_add, tn_add1, tn_sub1, tn_0, tn_1, Int.toNat_natCast, List.length_map]
    rw [map_getD mkS L j [] _ hj, may_eq _ (by omega), h j hj]
    simp (disch := omega) only [dp, dn, decide_true, decide_false, cond_true, cond_false, Bool.not_true, Bool.not_false, Bool.true_and, Bool.false_and, Bool.and_true, Bool.and_false, Bool.true_or, Bool.false_or, Bool.or_true, Bool.or_false, wr, Option.bind_some, tn_add, tn_add1, tn_sub1, tn_0, tn_1, Int.toNat_natCast, Int.natCast_add, Int.natCast_one]
  refine this.trans ?_
  show fold_Join.l1 (L.map mkS) (L.map mkS) (L.length : Int) (L.length : Nat) = _
  rw [fold_Join.l1_eq]
  simp (disch := omega) only [dp, dn, decide_true, decide_false, cond_true, cond_false, Bool.not_true, Bool.not_false, Bool.true_and, Bool.false_and, Bool.and_true, Bool.and_false, Bool.true_or, Bool.false_or, Bool.or_true, Bool.or_false, wr, Option.bind_some, tn_add, tn_add1, tn_sub1, tn_0, tn_1, Int.toNat_natCast, List.length_map]
theorem rjoin_l3 (L : List (List UInt8)) (hl : L.length < 100000) (i : Nat) (hi : i < L.length) (hs : (L.getD i []).length < 100000) (h32 : True) :
    vokref4_Join.l3 (L.map mkS) (i : Int) 0 [] = if (L.getD i []).all (fun c => plB c.toNat) then vokref4_Join.l1 (L.map mkS) ((i + 1 : Nat) : Int) [] else some ([], 4, ()) := by
  have hd := map_getD mkS L i [] ByteArray.empty hi
  generalize hs' : L.getD i [] = s at *
  have key : ∀ (k j : Nat), s.length - j = k → j ≤ s.length → (s.take j).all (fun c => plB c.toNat) = true → vokref4_Join.l3 (L.map mkS) (i : Int) (j : Int) [] = if s.all (fun c => plB c.toNat) then vokref4_Join.l1 (L.map mkS) ((i + 1 : Nat) : Int) [] else some ([], 4, ()) := by
    intro k
    induction k with
    | zero =>
      intro j hk hj h
      have e : j = s.length := by omega
      subst e
      rw [List.take_length] at h
      rw [vokref4_Join.l3_eq, h]
      simp (disch := omega) only [dp, dn, decide_true, decide_false, cond_true, cond_false, Bool.not_true, Bool.not_false, Bool.true_and, Bool.false_and, Bool.and_true, Bool.and_false, Bool.true_or, Bool.false_or, Bool.or_true, Bool.or_false, wr, Option.bind_some, tn_add, tn_add1, tn_sub1, tn_0, tn_1, Int.toNat_natCast, List.length_map, hd, szS, Int.natCast_add, Int.natCast_one]
      rfl
    | succ k ih =>
      intro j hk hj h
      have hlt : j < s.length := by omega
      have hb : bt (mkS s) (j : Int) = (chr s j : Int) := rfl
      have h4 : ∀ b : Bool, b = !plB (chr s j) → vokref4_Join.l4 (L.map mkS) (i : Int) (j : Int) b [] = if s.all (fun c => plB c.toNat) then vokref4_Join.l1 (L.map mkS) ((i + 1 : Nat) : Int) [] else some ([], 4, ()) := by
        rintro b rfl
        rw [vokref4_Join.l4_eq]
        cases hc : plB (chr s j) with
        | true =>
          simp (disch := omega) only [dp, dn, decide_true, decide_false, cond_true, cond_false, Bool.not_true, Bool.not_false, Bool.true_and, Bool.false_and, Bool.and_true, Bool.and_false, Bool.true_or, Bool.false_or, Bool.or_true, Bool.or_false, wr, Option.bind_some, tn_add, tn_add1, tn_sub1, tn_0, tn_1, Int.toNat_natCast]
          exact ih (j + 1) (by omega) (by omega) (all_take s j hlt h hc)
        | false =>
          rw [all_false s j hlt hc]
          rfl
      rw [vokref4_Join.l3_eq]
      simp (disch := omega) only [dp, dn, decide_true, decide_false, cond_true, cond_false, Bool.not_true, Bool.not_false, Bool.true_and, Bool.false_and, Bool.and_true, Bool.and_false, Bool.true_or, Bool.false_or, Bool.or_true, Bool.or_false, wr, Option.bind_some, tn_add, tn_add1, tn_sub1, tn_0, tn_1, Int.toNat_natCast, List.length_map, hd, szS, hb]
      by_cases h1 : chr s j < 32
      · simp (disch := omega) only [dp, dn, decide_true, decide_false, cond_true, cond_false, Bool.not_true, Bool.not_false, Bool.true_and, Bool.false_and, Bool.and_true, Bool.and_false, Bool.true_or, Bool.false_or, Bool.or_true, Bool.or_false, wr, Option.bind_some, tn_add, tn_add1, tn_sub1, tn_0, tn_1, Int.toNat_natCast]
        exact h4 true (by unfold plB; simp (disch := omega) only [dp, dn, decide_true, decide_false, cond_true, cond_false, Bool.not_true, Bool.not_false, Bool.true_and, Bool.false_and, Bool.and_true, Bool.and_false, Bool.true_or, Bool.false_or, Bool.or_true, Bool.or_false, wr, Option.bind_some, tn_add, tn_add1, tn_sub1, tn_0, tn_1, Int.toNat_natCast])
      · simp (disch := omega) only [dp, dn, decide_true, decide_false, cond_true, cond_false, Bool.not_true, Bool.not_false, Bool.true_and, Bool.false_and, Bool.and_true, Bool.and_false, Bool.true_or, Bool.false_or, Bool.or_true, Bool.or_false, wr, Option.bind_some, tn_add, tn_add1, tn_sub1, tn_0, tn_1, Int.toNat_natCast]
        exact h4 _ (by
          unfold plB
          by_cases h2 : chr s j ≤ 126
          · simp (disch := omega) only [dp, dn, decide_true, decide_false, cond_true, cond_false, Bool.not_true, Bool.not_false, Bool.true_and, Bool.false_and, Bool.and_true, Bool.and_false, Bool.true_or, Bool.false_or, Bool.or_true, Bool.or_false, wr, Option.bind_some, tn_add, tn_add1, tn_sub1, tn_0, tn_1, Int.toNat_natCast]
          · simp (disch := omega) only [dp, dn, decide_true, decide_false, cond_true, cond_false, Bool.not_true, Bool.not_false, Bool.true_and, Bool.false_and, Bool.and_true, Bool.and_false, Bool.true_or, Bool.false_or, Bool.or_true, Bool.or_false, wr, Option.bind_some, tn_add, tn_add1, tn_sub1, tn_0, tn_1, Int.toNat_natCast])
  exact key s.length 0 rfl (Nat.zero_le _) rfl
theorem rjoin_l1 (L : List (List UInt8)) (hl : L.length < 100000) (i : Nat) (hi : i < L.length) (hs : (L.getD i []).length < 100000) :
    vokref4_Join.l1 (L.map mkS) (i : Int) [] = if mayB (L.getD i []) then vokref4_Join.l1 (L.map mkS) ((i + 1 : Nat) : Int) [] else some ([], 4, ()) := by
  have hd := map_getD mkS L i [] ByteArray.empty hi
  have h3 := rjoin_l3 L hl i hi hs trivial
  generalize hs' : L.getD i [] = s at *
  rw [vokref4_Join.l1_eq]
  simp (disch := omega) only [dp, dn, decide_true, decide_false, cond_true, cond_false, Bool.not_true, Bool.not_false, Bool.true_and, Bool.false_and, Bool.and_true, Bool.and_false, Bool.true_or, Bool.false_or, Bool.or_true, Bool.or_false, wr, Option.bind_some, tn_add, tn_add1, tn_sub1, tn_0, tn_1, Int.toNat_natCast, List.length_map, hd, szS]
  cases s with
  | nil =>
    simp (disch := omega) only [dp, dn, decide_true, decide_false, cond_true, cond_false, Bool.not_true, Bool.not_false, Bool.true_and, Bool.false_and, Bool.and_true, Bool.and_false, Bool.true_or, Bool.false_or, Bool.or_true, Bool.or_false, wr, Option.bind_some, tn_add, tn_add1, tn_sub1, tn_0, tn_1, Int.toNat_natCast, List.length_nil]
    rw [vokref4_Join.l2_eq]
    rfl
  | cons x y =>
    have hlen : (x :: y).length = y.length + 1 := rfl
    have hb : bt (mkS (x :: y)) 0 = (chr (x :: y) 0 : Int) := rfl
    have hh := head_chr (x :: y) (by simp)
    simp (disch := omega) only [dp, dn, decide_true, decide_false, cond_true, cond_false, Bool.not_true, Bool.not_false, Bool.true_and, Bool.false_and, Bool.and_true, Bool.and_false, Bool.true_or, Bool.false_or, Bool.or_true, Bool.or_false, wr, Option.bind_some, tn_add, tn_add1, tn_sub1, tn_0, tn_1, Int.toNat_natCast, hlen, hb]
    rw [vokref4_Join.l2_eq, ← hh]
    unfold mayB
    by_cases hx : (x :: y).head? = some 32
    · rw [dp hx]
      simp
    · rw [dn hx, cond_false, h3]
      simp
theorem rjoin_bad (L : List (List UInt8)) (hl : L.length < 100000) (hs : ∀ s ∈ L, s.length < 100000) {k : Nat} (hk : k < L.length) (hb : mayB (L.getD k []) = false) (h : ∀ i, i < k → mayB (L.getD i []) = true) : vokref4_Join.f (L.map mkS) = some ([], 4, ()) := by
  have hlen : ∀ i, i < L.length → (L.getD i []).length < 100000 := fun i hi => hs _ (by rw [List.getD_eq_getElem?_getD, List.getElem?_eq_getElem hi]; exact List.getElem_mem hi)
  rw [vokref4_Join.f_eq]
  refine (loop_to (fun i : Nat => vokref4_Join.l1 (L.map mkS) i []) (k := k) (i := 0) (Nat.zero_le _) fun j _ hj => ?_).trans ?_
  · show vokref4_Join.l1 (L.map mkS) (j : Nat) [] = _
    rw [rjoin_l1 L hl j (by omega) (hlen j (by omega)), h j hj]
    rfl
  · show vokref4_Join.l1 (L.map mkS) (k : Nat) [] = _
    rw [rjoin_l1 L hl k hk (hlen k hk), hb]
    rfl
theorem rjoin_good (L : List (List UInt8)) (hl : L.length < 100000) (hs : ∀ s ∈ L, s.length < 100000) (h : ∀ i, i < L.length → mayB (L.getD i []) = true) : vokref4_Join.f (L.map mkS) = vokref4_Join.l5 (L.map mkS) 0 [] := by
  have hlen : ∀ i, i < L.length → (L.getD i []).length < 100000 := fun i hi => hs _ (by rw [List.getD_eq_getElem?_getD, List.getElem?_eq_getElem hi]; exact List.getElem_mem hi)
  rw [vokref4_Join.f_eq]
  refine (loop_to (fun i : Nat => vokref4_Join.l1 (L.map mkS) i []) (k := L.length) (i := 0) (Nat.zero_le _) fun j _ hj => ?_).trans ?_
  · show vokref4_Join.l1 (L.map mkS) (j : Nat) [] = _
    rw [rjoin_l1 L hl j (by omega) (hlen j (by omega)), h j hj]
    rfl
  · show vokref4_Join.l1 (L.map mkS) (L.length : Nat) [] = _
    rw [vokref4_Join.l1_eq]
    simp (disch := omega) only [dp, dn, decide_true, decide_false, cond_true, cond_false, Bool.not_true, Bool.not_false, Bool.true_and, Bool.false_and, Bool.and_true, Bool.and_false, Bool.true_or, Bool.false_or, Bool.or_true, Bool.or_false, wr, Option.bind_some, tn_add, tn_add1, tn_sub1, tn_0, tn_1, Int.toNat_natCast, List.length_map]
/-! ### Folded -/
def wrapd : Nat → Nat → List UInt8 → List UInt8
  | 0, _, s => s ++ [13, 10]
  | n + 1, w, s => if w < s.length then s.take w ++ 13 :: 10 :: 32 :: wrapd n 74 (s.drop w) else s ++ [13, 10]
def joined (L : List (List UInt8)) : List UInt8 := L.flatMap fun s => wrapd s.length 75 s
theorem ext0 (s : List UInt8) (w : Nat) : bytesOf ((mkS s).extract 0 w) = I (s.take w) := by rw [bytesOf_B, B_ext0, B_mk]
theorem exte (s : List UInt8) (w : Nat) : (mkS s).extract w s.length = mkS (s.drop w) := B_inj (by
  have := B_exte (mkS s) w
  rw [szS] at this
  rw [this]
  rfl)
theorem fold_l3 (X : List ByteArray) (N : Int) (i : Nat) (hi : i < 100000) : ∀ (n : Nat) (s : List UInt8) (w : Nat) (y : List UInt8), s.length ≤ n → 1 ≤ w → w < 100 → y.length + 4 * s.length < 1000000 →
    fold_Join.l3 (mkS s) (w : Int) X N (i : Int) (I y) = if 4096 < (y ++ wrapd n w s).length then some ([], 3, ()) else fold_Join.l2 X N ((i + 1 : Nat) : Int) (I (y ++ wrapd n w s)) := by
  have hlim : limit = 17179869184 := rfl
  have hend : ∀ (s : List UInt8) (w : Nat) (y : List UInt8), s.length ≤ w → y.length + 4 * s.length < 1000000 →
      fold_Join.l3 (mkS s) (w : Int) X N (i : Int) (I y) = if 4096 < (y ++ (s ++ [13, 10])).length then some ([], 3, ()) else fold_Join.l2 X N ((i + 1 : Nat) : Int) (I (y ++ (s ++ [13, 10]))) := by
    intro s w y h1 h2
    have e : I y ++ I s ++ ([13, 10] : List Int) = I (y ++ (s ++ [13, 10])) := by simp [I]
    have e2 : (y ++ (s ++ [13, 10])).length = y.length + s.length + 2 := by simp; omega
    have hb : bytesOf (mkS s) = I s := rfl
    have e6 : (I y ++ I s).length = y.length + s.length := by rw [← I_app, I_len, List.length_append]
    rw [fold_Join.l3_eq, hb, e]
    simp (disch := omega) only [dp, dn, decide_true, decide_false, cond_true, cond_false, Bool.not_true, Bool.not_false, Bool.true_and, Bool.false_and, Bool.and_true, Bool.and_false, Bool.true_or, Bool.false_or, Bool.or_true, Bool.or_false, wr, Option.bind_some, tn_add, tn_add1, tn_sub1, tn_0, tn_1, Int.toNat_natCast, szS, I_len, e6, e2, List.length_cons, List.length_nil]
    by_cases h : 4096 < (y ++ (s ++ [13, 10])).length
    · rw [e2] at h
      rw [if_pos (by omega)]
      simp (disch := omega) only [dp, dn, decide_true, decide_false, cond_true, cond_false, Bool.not_true, Bool.not_false, Bool.true_and, Bool.false_and, Bool.and_true, Bool.and_false, Bool.true_or, Bool.false_or, Bool.or_true, Bool.or_false, wr, Option.bind_some, tn_add, tn_add1, tn_sub1, tn_0, tn_1, Int.toNat_natCast]
    · rw [e2] at h
      rw [if_neg (by omega)]
      simp (disch := omega) only [dp, dn, decide_true, decide_false, cond_true, cond_false, Bool.not_true, Bool.not_false, Bool.true_and, Bool.false_and, Bool.and_true, Bool.and_false, Bool.true_or, Bool.false_or, Bool.or_true, Bool.or_false, wr, Option.bind_some, tn_add, tn_add1, tn_sub1, tn_0, tn_1, Int.toNat_natCast, Int.natCast_add, Int.natCast_one]
  intro n
  induction n with
  | zero =>
    intro s w y h1 h2 h3 h4
    exact hend s w y (by omega) h4
  | succ n ih =>
    intro s w y h1 h2 h3 h4
    unfold wrapd
    by_cases h : w < s.length
    · rw [if_pos h]
      have e : I y ++ I (s.take w) ++ ([13, 10, 32] : List Int) = I (y ++ (s.take w ++ [13, 10, 32])) := by simp [I]
      have e3 : (s.take w).length = w := by simp; omega
      have e4 : (s.drop w).length = s.length - w := by simp
      have e2 : (y ++ (s.take w ++ [13, 10, 32])).length = y.length + w + 3 := by simp; omega
      have e6 : (I y ++ I (s.take w)).length = y.length + w := by rw [← I_app, I_len, List.length_append, e3]
      rw [fold_Join.l3_eq]
      simp (disch := omega) only [dp, dn, decide_true, decide_false, cond_true, cond_false, Bool.not_true, Bool.not_false, Bool.true_and, Bool.false_and, Bool.and_true, Bool.and_false, Bool.true_or, Bool.false_or, Bool.or_true, Bool.or_false, wr, Option.bind_some, tn_add, tn_add1, tn_sub1, tn_0, tn_1, Int.toNat_natCast, szS, ext0, e, I_len, e6, e2, e3, List.length_cons, List.length_nil]
      rw [exte]
      have := ih (s.drop w) 74 (y ++ (s.take w ++ [13, 10, 32])) (by omega) (by omega) (by omega) (by omega)
      rw [show ((74 : Nat) : Int) = 74 from rfl] at this
      rw [this]
      have e5 : y ++ (s.take w ++ [13, 10, 32]) ++ wrapd n 74 (s.drop w) = y ++ (s.take w ++ 13 :: 10 :: 32 :: wrapd n 74 (s.drop w)) := by simp
      rw [e5]
    · rw [if_neg h]
      exact hend s w y (by omega) h4
theorem wrapd_len : ∀ (n w : Nat) (s : List UInt8), s.length ≤ n → 1 ≤ w → (wrapd n w s).length ≤ 4 * s.length + 2 := by
  intro n
  induction n with
  | zero =>
    intro w s h _
    simp [wrapd]
    omega
  | succ n ih =>
    intro w s h hw
    unfold wrapd
    split
    · rename_i hlt
      have e4 : (s.drop w).length = s.length - w := by simp
      have := ih 74 (s.drop w) (by omega) (by omega)
      rw [e4] at this
      simp only [List.length_append, List.length_cons, List.length_take]
      omega
    · simp
      omega
theorem wrapd_ge : ∀ (n w : Nat) (s : List UInt8), s.length + 2 ≤ (wrapd n w s).length := by
  intro n
  induction n with
  | zero =>
    intro w s
    simp [wrapd]
  | succ n ih =>
    intro w s
    unfold wrapd
    split
    · have e4 : (s.drop w).length = s.length - w := by simp
      have := ih 74 (s.drop w)
      rw [e4] at this
      simp only [List.length_append, List.length_cons, List.length_take]
      omega
    · simp
theorem rfold_l6 (X : List ByteArray) (i : Nat) (hi : i < 100000) : ∀ (n : Nat) (s : List UInt8) (w : Nat) (y : List UInt8), s.length ≤ n → 1 ≤ w → w < 100 → y.length + 4 * s.length < 1000000 →
    vokref4_Join.l6 X (i : Int) (mkS s) (w : Int) (I y) = if 4096 < (y ++ wrapd n w s).length then some ([], 3, ()) else vokref4_Join.l5 X ((i + 1 : Nat) : Int) (I (y ++ wrapd n w s)) := by
  have hlim : limit = 17179869184 := rfl
  have hend : ∀ (s : List UInt8) (w : Nat) (y : List UInt8), s.length ≤ w → y.length + 4 * s.length < 1000000 →
      vokref4_Join.l6 X (i : Int) (mkS s) (w : Int) (I y) = if 4096 < (y ++ (s ++ [13, 10])).length then some ([], 3, ()) else vokref4_Join.l5 X ((i + 1 : Nat) : Int) (I (y ++ (s ++ [13, 10]))) := by
    intro s w y h1 h2
    have e : I y ++ I s ++ ([13, 10] : List Int) = I (y ++ (s ++ [13, 10])) := by simp [I]
    have e2 : (y ++ (s ++ [13, 10])).length = y.length + s.length + 2 := by simp; omega
    have hb : bytesOf (mkS s) = I s := rfl
    have e6 : (I y ++ I s).length = y.length + s.length := by rw [← I_app, I_len, List.length_append]
    rw [vokref4_Join.l6_eq, hb, e]
    simp (disch := omega) only [dp, dn, decide_true, decide_false, cond_true, cond_false, Bool.not_true, Bool.not_false, Bool.true_and, Bool.false_and, Bool.and_true, Bool.and_false, Bool.true_or, Bool.false_or, Bool.or_true, Bool.or_false, wr, Option.bind_some, tn_add, tn_add1, tn_sub1, tn_0, tn_1, Int.toNat_natCast, szS, I_len, e6, e2, List.length_cons, List.length_nil]
    by_cases h : 4096 < (y ++ (s ++ [13, 10])).length
    · rw [e2] at h
      rw [if_pos (by omega)]
      simp (disch := omega) only [dp, dn, decide_true, decide_false, cond_true, cond_false, Bool.not_true, Bool.not_false, Bool.true_and, Bool.false_and, Bool.and_true, Bool.and_false, Bool.true_or, Bool.false_or, Bool.or_true, Bool.or_false, wr, Option.bind_some, tn_add, tn_add1, tn_sub1, tn_0, tn_1, Int.toNat_natCast]
    · rw [e2] at h
      rw [if_neg (by omega)]
      simp (disch := omega) only [dp, dn, decide_true, decide_false, cond_true, cond_false, Bool.not_true, Bool.not_false, Bool.true_and, Bool.false_and, Bool.and_true, Bool.and_false, Bool.true_or, Bool.false_or, Bool.or_true, Bool.or_false, wr, Option.bind_some, tn_add, tn_add1, tn_sub1, tn_0, tn_1, Int.toNat_natCast, Int.natCast_add, Int.natCast_one]
  intro n
  induction n with
  | zero =>
    intro s w y h1 h2 h3 h4
    exact hend s w y (by omega) h4
  | succ n ih =>
    intro s w y h1 h2 h3 h4
    unfold wrapd
    by_cases h : w < s.length
    · rw [if_pos h]
      have e : I y ++ I (s.take w) ++ ([13, 10, 32] : List Int) = I (y ++ (s.take w ++ [13, 10, 32])) := by simp [I]
      have e3 : (s.take w).length = w := by simp; omega
      have e4 : (s.drop w).length = s.length - w := by simp
      have e2 : (y ++ (s.take w ++ [13, 10, 32])).length = y.length + w + 3 := by simp; omega
      have e5 : y ++ (s.take w ++ [13, 10, 32]) ++ wrapd n 74 (s.drop w) = y ++ (s.take w ++ 13 :: 10 :: 32 :: wrapd n 74 (s.drop w)) := by simp
      have e6 : (I y ++ I (s.take w)).length = y.length + w := by rw [← I_app, I_len, List.length_append, e3]
      rw [vokref4_Join.l6_eq]
      simp (disch := omega) only [dp, dn, decide_true, decide_false, cond_true, cond_false, Bool.not_true, Bool.not_false, Bool.true_and, Bool.false_and, Bool.and_true, Bool.and_false, Bool.true_or, Bool.false_or, Bool.or_true, Bool.or_false, wr, Option.bind_some, tn_add, tn_add1, tn_sub1, tn_0, tn_1, Int.toNat_natCast, szS, ext0, e, I_len, e6, e2, e3, List.length_cons, List.length_nil]
      rw [exte]
      by_cases hov : 4096 < y.length + w + 3
      · simp (disch := omega) only [dp, dn, decide_true, decide_false, cond_true, cond_false, Bool.not_true, Bool.not_false, Bool.true_and, Bool.false_and, Bool.and_true, Bool.and_false, Bool.true_or, Bool.false_or, Bool.or_true, Bool.or_false, wr, Option.bind_some, tn_add, tn_add1, tn_sub1, tn_0, tn_1, Int.toNat_natCast]
        have := wrapd_ge n 74 (s.drop w)
        rw [if_pos (by rw [← e5, List.length_append, e2]; omega)]
      · simp (disch := omega) only [dp, dn, decide_true, decide_false, cond_true, cond_false, Bool.not_true, Bool.not_false, Bool.true_and, Bool.false_and, Bool.and_true, Bool.and_false, Bool.true_or, Bool.false_or, Bool.or_true, Bool.or_false, wr, Option.bind_some, tn_add, tn_add1, tn_sub1, tn_0, tn_1, Int.toNat_natCast]
        have := ih (s.drop w) 74 (y ++ (s.take w ++ [13, 10, 32])) (by omega) (by omega) (by omega) (by omega)
        rw [show ((74 : Nat) : Int) = 74 from rfl] at this
        rw [this, e5]
    · rw [if_neg h]
      exact hend s w y (by omega) h4
theorem join_l2 (L : List (List UInt8)) (hl : L.length < 10000) : ∀ (k i : Nat) (y : List UInt8), L.length - i = k → i ≤ L.length → y.length ≤ 4096 → tot (L.drop i) < 10000 →
    fold_Join.l2 (L.map mkS) (L.length : Int) (i : Int) (I y) = if 4096 < (y ++ joined (L.drop i)).length then some ([], 3, ()) else some (I (y ++ joined (L.drop i)), 0, ()) := by
  intro k
  induction k with
  | zero =>
    intro i y hk hi hy ht
    have e : i = L.length := by omega
    subst e
    rw [fold_Join.l2_eq, List.drop_length]
    have : y ++ joined [] = y := by simp [joined]
    rw [this, if_neg (by omega)]
    simp (disch := omega) only [dp, dn, decide_true, decide_false, cond_true, cond_false, Bool.not_true, Bool.not_false, Bool.true_and, Bool.false_and, Bool.and_true, Bool.and_false, Bool.true_or, Bool.false_or, Bool.or_true, Bool.or_false, wr, Option.bind_some, tn_add, tn_add1, tn_sub1, tn_0, tn_1, Int.toNat_natCast]
  | succ k ih =>
    intro i y hk hi hy ht
    have hlt : i < L.length := by omega
    have hd := drop_cons L i [] hlt
    rw [hd, tot_cons] at ht
    have hw := wrapd_len (L.getD i []).length 75 (L.getD i []) (Nat.le_refl _) (by omega)
    rw [fold_Join.l2_eq]
    simp (disch := omega) only [dp, dn, decide_true, decide_false, cond_true, cond_false, Bool.not_true, Bool.not_false, Bool.true_and, Bool.false_and, Bool.and_true, Bool.and_false, Bool.true_or, Bool.false_or, Bool.or_true, Bool.or_false, wr, Option.bind_some, tn_add, tn_add1, tn_sub1, tn_0, tn_1, Int.toNat_natCast, List.length_map]
    rw [map_getD mkS L i [] _ hlt]
    have := fold_l3 (L.map mkS) (L.length : Int) i (by omega) (L.getD i []).length (L.getD i []) 75 y (Nat.le_refl _) (by omega) (by omega) (by omega)
    rw [show ((75 : Nat) : Int) = 75 from rfl] at this
    rw [this, hd]
    have e : joined (L.getD i [] :: L.drop (i + 1)) = wrapd (L.getD i []).length 75 (L.getD i []) ++ joined (L.drop (i + 1)) := rfl
    rw [e, ← List.append_assoc]
    by_cases h : 4096 < (y ++ wrapd (L.getD i []).length 75 (L.getD i [])).length
    · rw [if_pos h, if_pos (by rw [List.length_append]; omega)]
    · rw [if_neg h]
      exact ih (i + 1) _ (by omega) (by omega) (by omega) (by omega)
theorem rjoin_l5 (L : List (List UInt8)) (hl : L.length < 10000) : ∀ (k i : Nat) (y : List UInt8), L.length - i = k → i ≤ L.length → y.length ≤ 4096 → tot (L.drop i) < 10000 →
    vokref4_Join.l5 (L.map mkS) (i : Int) (I y) = if 4096 < (y ++ joined (L.drop i)).length then some ([], 3, ()) else some (I (y ++ joined (L.drop i)), 0, ()) := by
  intro k
  induction k with
  | zero =>
    intro i y hk hi hy ht
    have e : i = L.length := by omega
    subst e
    rw [vokref4_Join.l5_eq, List.drop_length]
    have : y ++ joined [] = y := by simp [joined]
    rw [this, if_neg (by omega)]
    simp (disch := omega) only [dp, dn, decide_true, decide_false, cond_true, cond_false, Bool.not_true, Bool.not_false, Bool.true_and, Bool.false_and, Bool.and_true, Bool.and_false, Bool.true_or, Bool.false_or, Bool.or_true, Bool.or_false, wr, Option.bind_some, tn_add, tn_add1, tn_sub1, tn_0, tn_1, Int.toNat_natCast, List.length_map]
  | succ k ih =>
    intro i y hk hi hy ht
    have hlt : i < L.length := by omega
    have hd := drop_cons L i [] hlt
    rw [hd, tot_cons] at ht
    rw [vokref4_Join.l5_eq]
    simp (disch := omega) only [dp, dn, decide_true, decide_false, cond_true, cond_false, Bool.not_true, Bool.not_false, Bool.true_and, Bool.false_and, Bool.and_true, Bool.and_false, Bool.true_or, Bool.false_or, Bool.or_true, Bool.or_false, wr, Option.bind_some, tn_add, tn_add1, tn_sub1, tn_0, tn_1, Int.toNat_natCast, List.length_map]
    rw [map_getD mkS L i [] _ hlt]
    have := rfold_l6 (L.map mkS) i (by omega) (L.getD i []).length (L.getD i []) 75 y (Nat.le_refl _) (by omega) (by omega) (by omega)
    rw [show ((75 : Nat) : Int) = 75 from rfl] at this
    rw [this, hd]
    have e : joined (L.getD i [] :: L.drop (i + 1)) = wrapd (L.getD i []).length 75 (L.getD i []) ++ joined (L.drop (i + 1)) := rfl
    rw [e, ← List.append_assoc]
    by_cases h : 4096 < (y ++ wrapd (L.getD i []).length 75 (L.getD i [])).length
    · rw [if_pos h, if_pos (by rw [List.length_append]; omega)]
    · rw [if_neg h]
      exact ih (i + 1) _ (by omega) (by omega) (by omega) (by omega)
/-- What Join comes to. -/
def joinA (L : List (List UInt8)) : Option (List Int × Int × Unit) :=
  if (L.all mayB) = true then (if 4096 < (joined L).length then some ([], 3, ()) else some (I (joined L), 0, ())) else some ([], 4, ())
theorem tot_mem {L : List (List UInt8)} {s : List UInt8} (h : s ∈ L) : s.length ≤ tot L := by
  induction L with
  | nil => cases h
  | cons a l ih =>
    rw [tot_cons]
    cases h with
    | head => omega
    | tail _ h => have := ih h; omega
theorem all_may (L : List (List UInt8)) (h : ∀ i, i < L.length → mayB (L.getD i []) = true) : L.all mayB = true := by
  rw [List.all_eq_true]
  intro s hs
  obtain ⟨i, hi, rfl⟩ := List.getElem_of_mem hs
  have := h i hi
  rw [List.getD_eq_getElem?_getD, List.getElem?_eq_getElem hi] at this
  exact this
theorem not_all_may (L : List (List UInt8)) {k : Nat} (hk : k < L.length) (hb : mayB (L.getD k []) = false) : ¬ L.all mayB = true := by
  intro h
  rw [List.all_eq_true] at h
  have := h _ (show L.getD k [] ∈ L by rw [List.getD_eq_getElem?_getD, List.getElem?_eq_getElem hk]; exact List.getElem_mem hk)
  rw [hb] at this
  cases this
theorem join_eq (L : List (List UInt8)) (hl : L.length ≤ 300) (ht : tot L ≤ 6000) : fold_Join.f (L.map mkS) = joinA L ∧ vokref4_Join.f (L.map mkS) = joinA L := by
  have hs : ∀ s ∈ L, s.length < 100000 := fun s h => by have := tot_mem h; omega
  unfold joinA
  rcases first_bad (fun i => !mayB (L.getD i [])) L.length with h | ⟨k, h1, h2, h3⟩
  · have h' : ∀ i, i < L.length → mayB (L.getD i []) = true := fun i hi => by have := h i hi; simpa using this
    rw [if_pos (all_may L h')]
    have e1 := join_l2 L (by omega) L.length 0 [] rfl (Nat.zero_le _) (by simp) (by rw [List.drop_zero]; omega)
    have e2 := rjoin_l5 L (by omega) L.length 0 [] rfl (Nat.zero_le _) (by simp) (by rw [List.drop_zero]; omega)
    rw [List.drop_zero, List.nil_append] at e1 e2
    exact ⟨(join_good L (by omega) hs h').trans e1, (rjoin_good L (by omega) hs h').trans e2⟩
  · have h2' : mayB (L.getD k []) = false := by simpa using h2
    have h3' : ∀ i, i < k → mayB (L.getD i []) = true := fun i hi => by have := h3 i hi; simpa using this
    rw [if_neg (not_all_may L h1 h2')]
    exact ⟨join_bad L (by omega) hs h1 h2' h3', rjoin_bad L (by omega) hs h1 h2' h3'⟩
theorem beqI (a : List UInt8) : ((strOf (I a)).toList == (strOf (I a)).toList) = true := by rw [beq_S, dp rfl]
theorem FoldJoins_pure (b : List ByteArray) (ok : Tys.Ok (.cons (.row 9 .str) .nil) (b, ())) : voklaw4_FoldJoins.f b = some (true, ()) := by
  obtain ⟨⟨o1, o2⟩, _⟩ := ok
  have e : b = (b.map B).map mkS := by rw [List.map_map]; exact (List.map_id b).symm
  obtain ⟨x, h1, h2⟩ := few_some (b.map B) (by rw [List.length_map]; exact o1) (by
    intro s hs
    rw [List.mem_map] at hs
    obtain ⟨a, ha, rfl⟩ := hs
    have := o2 a ha
    rw [← size_B]
    exact this)
  rw [e, voklaw4_FoldJoins.f_eq, first_true, h1]
  cases x with
  | false => rfl
  | true =>
    obtain ⟨h3, h4⟩ := h2 rfl
    obtain ⟨j1, j2⟩ := join_eq (b.map B) h3 h4
    rw [j1, j2]
    unfold joinA
    simp only [vokref_Bytes.f_eq]
    split
    · split
      · simp
      · simp [beqI]
    · simp
end Go.GV.YtlfiapleboklcaaDoor
