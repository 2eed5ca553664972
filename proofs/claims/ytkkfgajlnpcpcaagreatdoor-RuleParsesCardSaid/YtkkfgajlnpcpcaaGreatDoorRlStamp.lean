/-
Moments out of texts: the program's and the document's are one. (This session's own text.)
-/
import Derived.Test.YtkkfgajlnpcpcaaGreatDoorRlCivil
set_option linter.unusedVariables false
set_option linter.unusedSimpArgs false
namespace Go.GV.YtkkfgajlnpcpcaaGreatDoor
open Go.Proofs
theorem make_spec (y m d h mi s : Int) (hh : 0 ≤ h ∧ h ≤ 10000) (hm : 0 ≤ mi ∧ mi ≤ 10000) (hs : 0 ≤ s ∧ s ≤ 10000) : ∃ t e, stamp_Make.f y m d h mi s = some (t, e, ()) ∧ vokref1_Make.f y m d h mi s = some (t, e, ()) := by
  obtain ⟨h1, h2⟩ := days_spec y m d
  rw [stamp_Make.f_eq, vokref1_Make.f_eq, h1, h2]
  cases hv : validB y m d with
  | false =>
    refine ⟨0, 1, ?_, ?_⟩
    · simp (disch := omega) only [dp, dn, decide_true, decide_false, cond_true, cond_false, Bool.not_true, Bool.not_false, Bool.true_and, Bool.false_and, Bool.and_true, Bool.and_false, Bool.true_or, Bool.false_or, Bool.or_true, Bool.or_false, wr, Option.bind_some, tn_add, tn_add1, tn_sub1, tn_0, tn_1, Int.toNat_natCast, Bool.false_eq_true, if_false, stamp_Make.l1_eq]
    · simp (disch := omega) only [dp, dn, decide_true, decide_false, cond_true, cond_false, Bool.not_true, Bool.not_false, Bool.true_and, Bool.false_and, Bool.and_true, Bool.and_false, Bool.true_or, Bool.false_or, Bool.or_true, Bool.or_false, wr, Option.bind_some, tn_add, tn_add1, tn_sub1, tn_0, tn_1, Int.toNat_natCast, Bool.false_eq_true, if_false, vokref1_Make.l1_eq]
  | true =>
    unfold validB at hv
    simp only [Bool.and_eq_true, decide_eq_true_eq] at hv
    obtain ⟨⟨⟨h3, h4⟩, h5⟩, h6⟩ := hv
    have hb := mlen_bd y m
    have hfb := fst_bd y h3 (by omega)
    have hcb := cum_bd y m
    generalize fst_ y + d - 1 + cum y m = n at *
    have hn : -20000000 ≤ n ∧ n ≤ 20000000 ∨ True := .inr trivial
    by_cases c1 : h > 23
    · exact ⟨0, 1, by simp (disch := omega) only [dp, dn, decide_true, decide_false, cond_true, cond_false, Bool.not_true, Bool.not_false, Bool.true_and, Bool.false_and, Bool.and_true, Bool.and_false, Bool.true_or, Bool.false_or, Bool.or_true, Bool.or_false, wr, Option.bind_some, tn_add, tn_add1, tn_sub1, tn_0, tn_1, Int.toNat_natCast, if_true, stamp_Make.l1_eq], by simp (disch := omega) only [dp, dn, decide_true, decide_false, cond_true, cond_false, Bool.not_true, Bool.not_false, Bool.true_and, Bool.false_and, Bool.and_true, Bool.and_false, Bool.true_or, Bool.false_or, Bool.or_true, Bool.or_false, wr, Option.bind_some, tn_add, tn_add1, tn_sub1, tn_0, tn_1, Int.toNat_natCast, if_true, vokref1_Make.l1_eq]⟩
    · by_cases c2 : mi > 59
      · exact ⟨0, 1, by simp (disch := omega) only [dp, dn, decide_true, decide_false, cond_true, cond_false, Bool.not_true, Bool.not_false, Bool.true_and, Bool.false_and, Bool.and_true, Bool.and_false, Bool.true_or, Bool.false_or, Bool.or_true, Bool.or_false, wr, Option.bind_some, tn_add, tn_add1, tn_sub1, tn_0, tn_1, Int.toNat_natCast, if_true, stamp_Make.l1_eq], by simp (disch := omega) only [dp, dn, decide_true, decide_false, cond_true, cond_false, Bool.not_true, Bool.not_false, Bool.true_and, Bool.false_and, Bool.and_true, Bool.and_false, Bool.true_or, Bool.false_or, Bool.or_true, Bool.or_false, wr, Option.bind_some, tn_add, tn_add1, tn_sub1, tn_0, tn_1, Int.toNat_natCast, if_true, vokref1_Make.l1_eq]⟩
      · by_cases c3 : s > 59
        · exact ⟨0, 1, by simp (disch := omega) only [dp, dn, decide_true, decide_false, cond_true, cond_false, Bool.not_true, Bool.not_false, Bool.true_and, Bool.false_and, Bool.and_true, Bool.and_false, Bool.true_or, Bool.false_or, Bool.or_true, Bool.or_false, wr, Option.bind_some, tn_add, tn_add1, tn_sub1, tn_0, tn_1, Int.toNat_natCast, if_true, stamp_Make.l1_eq], by simp (disch := omega) only [dp, dn, decide_true, decide_false, cond_true, cond_false, Bool.not_true, Bool.not_false, Bool.true_and, Bool.false_and, Bool.and_true, Bool.and_false, Bool.true_or, Bool.false_or, Bool.or_true, Bool.or_false, wr, Option.bind_some, tn_add, tn_add1, tn_sub1, tn_0, tn_1, Int.toNat_natCast, if_true, vokref1_Make.l1_eq]⟩
        · refine ⟨_, 0, by simp (disch := omega) only [dp, dn, decide_true, decide_false, cond_true, cond_false, Bool.not_true, Bool.not_false, Bool.true_and, Bool.false_and, Bool.and_true, Bool.and_false, Bool.true_or, Bool.false_or, Bool.or_true, Bool.or_false, wr, Option.bind_some, tn_add, tn_add1, tn_sub1, tn_0, tn_1, Int.toNat_natCast, if_true, stamp_Make.l1_eq]; rfl, ?_⟩
          simp (disch := omega) only [dp, dn, decide_true, decide_false, cond_true, cond_false, Bool.not_true, Bool.not_false, Bool.true_and, Bool.false_and, Bool.and_true, Bool.and_false, Bool.true_or, Bool.false_or, Bool.or_true, Bool.or_false, wr, Option.bind_some, tn_add, tn_add1, tn_sub1, tn_0, tn_1, Int.toNat_natCast, if_true, vokref1_Make.l1_eq]
          rw [Int.mul_comm h 3600, Int.mul_comm mi 60]
/-! ### Digits -/
theorem dval_mul : ∀ (l : List UInt8) (a : Nat), dval a l = a * 10 ^ l.length + dval 0 l
  | [], a => by show a = a * 10 ^ 0 + 0; omega
  | c :: l, a => by
    show dval (10 * a + (c.toNat - 48)) l = _ + dval (10 * 0 + (c.toNat - 48)) l
    rw [Nat.mul_zero, Nat.zero_add, dval_mul l (10 * a + (c.toNat - 48)), dval_mul l (c.toNat - 48), List.length_cons, Nat.pow_succ, Nat.add_mul]
    have : a * (10 ^ l.length * 10) = 10 * a * 10 ^ l.length := by rw [Nat.mul_comm (10 ^ l.length) 10, ← Nat.mul_assoc, Nat.mul_comm a 10]
    omega
theorem dval_lt (l : List UInt8) (h : ∀ c ∈ l, dig c) : dval 0 l < 10 ^ l.length := by
  suffices g : ∀ (l : List UInt8) (a b : Nat), (∀ c ∈ l, dig c) → a < b → dval a l < b * 10 ^ l.length by
    have := g l 0 1 h (by omega)
    omega
  intro l
  induction l with
  | nil => intro a b _ h; show a < b * 1; omega
  | cons c l ih =>
    intro a b hd hab
    have hc := hd c List.mem_cons_self
    unfold dig at hc
    have := ih (10 * a + (c.toNat - 48)) (10 * b) (fun x hx => hd x (List.mem_cons_of_mem _ hx)) (by omega)
    show dval (10 * a + (c.toNat - 48)) l < _
    rw [List.length_cons, Nat.pow_succ, Nat.mul_comm (10 ^ l.length) 10, ← Nat.mul_assoc, Nat.mul_comm b 10]
    exact this
def digs (l : List UInt8) : Prop := ∀ c ∈ l, dig c
theorem u8w {c : UInt8} (h : dig c) : IntKind.u8.wrap ((c.toNat : Int) - 48) = ((c.toNat - 48 : Nat) : Int) := by
  unfold dig at h
  rw [Go.IntWalk.u8_in _ ⟨by omega, by omega⟩]
  omega
theorem snum_l1 (s : List UInt8) (hs : s.length ≤ 10) : ∀ (k i v : Nat), s.length - i = k → i ≤ s.length → v < 10 ^ i →
    (digs (s.drop i) → stamp_number.l1 (mkS s) v s.length i = some (((dval v (s.drop i) : Nat) : Int), true, ())) ∧ (¬ digs (s.drop i) → stamp_number.l1 (mkS s) v s.length i = some (0, false, ())) ∧
    (digs (s.drop i) → vokref1_number.l1 (mkS s) v i = some (((dval v (s.drop i) : Nat) : Int), ())) ∧ (¬ digs (s.drop i) → vokref1_number.l1 (mkS s) v i = some (-1, ())) := by
  intro k
  induction k with
  | zero =>
    intro i v hk hi hv
    have e : i = s.length := by omega
    subst e
    rw [stamp_number.l1_eq, vokref1_number.l1_eq, List.drop_length]
    simp (disch := omega) only [dp, dn, decide_true, decide_false, cond_true, cond_false, Bool.not_true, Bool.not_false, Bool.true_and, Bool.false_and, Bool.and_true, Bool.and_false, Bool.true_or, Bool.false_or, Bool.or_true, Bool.or_false, wr, Option.bind_some, tn_add, tn_add1, tn_sub1, tn_0, tn_1, Int.toNat_natCast, szS]
    exact ⟨fun _ => rfl, fun h => absurd (fun c hc => by cases hc) h, fun _ => rfl, fun h => absurd (fun c hc => by cases hc) h⟩
  | succ k ih =>
    intro i v hk hi hv
    have hlt : i < s.length := by omega
    have hbt : bt (mkS s) (i : Int) = ((s.getD i 0).toNat : Int) := bt_nat (mkS s) i
    have hv2 : v < 10000000000 := Nat.lt_of_lt_of_le hv (Nat.pow_le_pow_right (by omega) (show i ≤ 10 by omega))
    have hc := u8_bd (s.getD i 0)
    rw [stamp_number.l1_eq, vokref1_number.l1_eq, drop_getD' 0 hlt]
    by_cases hd : dig (s.getD i 0)
    · have hd' := hd
      unfold dig at hd'
      have hw := u8w hd
      have e2 : (10 : Int) * (v : Int) + ((s.getD i 0).toNat - 48 : Nat) = ((10 * v + ((s.getD i 0).toNat - 48) : Nat) : Int) := by omega
      simp (disch := omega) only [dp, dn, decide_true, decide_false, cond_true, cond_false, Bool.not_true, Bool.not_false, Bool.true_and, Bool.false_and, Bool.and_true, Bool.and_false, Bool.true_or, Bool.false_or, Bool.or_true, Bool.or_false, wr, Option.bind_some, tn_add, tn_add1, tn_sub1, tn_0, tn_1, Int.toNat_natCast, szS, hbt, stamp_number.l2_eq, vokref1_number.l2_eq, hw]
      rw [e2]
      obtain ⟨h1, h2, h3, h4⟩ := ih (i + 1) (10 * v + ((s.getD i 0).toNat - 48)) (by omega) (by omega) (by rw [Nat.pow_succ]; omega)
      have hq : digs (s.getD i 0 :: s.drop (i + 1)) ↔ digs (s.drop (i + 1)) := ⟨fun h c hc => h c (List.mem_cons_of_mem _ hc), fun h c hc => (List.mem_cons.1 hc).elim (fun e => e ▸ hd) (h c)⟩
      rw [hq]
      exact ⟨h1, h2, h3, h4⟩
    · have hq : ¬ digs (s.getD i 0 :: s.drop (i + 1)) := fun h => hd (h _ List.mem_cons_self)
      unfold dig at hd
      by_cases c1 : ((s.getD i 0).toNat : Int) < 48
      · simp (disch := omega) only [dp, dn, decide_true, decide_false, cond_true, cond_false, Bool.not_true, Bool.not_false, Bool.true_and, Bool.false_and, Bool.and_true, Bool.and_false, Bool.true_or, Bool.false_or, Bool.or_true, Bool.or_false, wr, Option.bind_some, tn_add, tn_add1, tn_sub1, tn_0, tn_1, Int.toNat_natCast, szS, hbt, stamp_number.l2_eq, vokref1_number.l2_eq]
        exact ⟨fun h => absurd h hq, fun _ => trivial, fun h => absurd h hq, fun _ => trivial⟩
      · simp (disch := omega) only [dp, dn, decide_true, decide_false, cond_true, cond_false, Bool.not_true, Bool.not_false, Bool.true_and, Bool.false_and, Bool.and_true, Bool.and_false, Bool.true_or, Bool.false_or, Bool.or_true, Bool.or_false, wr, Option.bind_some, tn_add, tn_add1, tn_sub1, tn_0, tn_1, Int.toNat_natCast, szS, hbt, stamp_number.l2_eq, vokref1_number.l2_eq]
        exact ⟨fun h => absurd h hq, fun _ => trivial, fun h => absurd h hq, fun _ => trivial⟩
theorem snum (s : List UInt8) (hs : s.length ≤ 10) : (digs s → stamp_number.f (mkS s) = some (((dval 0 s : Nat) : Int), true, ())) ∧ (¬ digs s → stamp_number.f (mkS s) = some (0, false, ())) := by
  have := snum_l1 s hs _ 0 0 rfl (Nat.zero_le _) (by decide)
  rw [Int.natCast_zero, List.drop_zero] at this
  rw [stamp_number.f_eq, szS]
  exact ⟨this.1, this.2.1⟩
theorem vnum (s : List UInt8) (hs : s.length ≤ 10) : (digs s → vokref1_number.f (mkS s) = some (((dval 0 s : Nat) : Int), ())) ∧ (¬ digs s → vokref1_number.f (mkS s) = some (-1, ())) := by
  have := snum_l1 s hs _ 0 0 rfl (Nat.zero_le _) (by decide)
  rw [Int.natCast_zero, List.drop_zero] at this
  rw [vokref1_number.f_eq]
  exact ⟨this.2.2.1, this.2.2.2⟩
theorem vnum' (s : List UInt8) (hs : s.length ≤ 10) : ∃ n : Int, vokref1_number.f (mkS s) = some (n, ()) ∧ (digs s → n = (dval 0 s : Nat)) ∧ (¬ digs s → n = -1) := by
  by_cases h : digs s
  · exact ⟨_, (vnum s hs).1 h, fun _ => rfl, fun q => absurd h q⟩
  · exact ⟨_, (vnum s hs).2 h, fun q => absurd q h, fun _ => rfl⟩
theorem digs_app {a b : List UInt8} : digs (a ++ b) ↔ digs a ∧ digs b :=
  ⟨fun h => ⟨fun c hc => h c (List.mem_append_left _ hc), fun c hc => h c (List.mem_append_right _ hc)⟩, fun h c hc => (List.mem_append.1 hc).elim (h.1 c) (h.2 c)⟩
theorem ex_S (s : List UInt8) (a b : Nat) : (mkS s).extract a b = mkS ((s.drop a).take (b - a)) := B_inj (by rw [B_ext, B_mk, B_mk])
theorem len2 (y0 y1 y2 y3 y4 y5 : Int) (h : y0 < 0 ∨ y1 < 0 ∨ y2 < 0 ∨ y3 < 0 ∨ y4 < 0 ∨ y5 < 0) : vokref1_Parse.l2 0 [y0, y1, y2, y3, y4, y5] = some (0, 4, ()) := by
  have step : ∀ (i : Nat) (hi : i < 6), vokref1_Parse.l2 i [y0, y1, y2, y3, y4, y5] = bif decide ([y0, y1, y2, y3, y4, y5].getD i 0 < 0) then some (0, 4, ()) else vokref1_Parse.l2 (i + 1 : Nat) [y0, y1, y2, y3, y4, y5] := by
    intro i hi
    conv => lhs; rw [vokref1_Parse.l2_eq]
    simp (disch := omega) only [dp, dn, decide_true, decide_false, cond_true, cond_false, Bool.not_true, Bool.not_false, Bool.true_and, Bool.false_and, Bool.and_true, Bool.and_false, Bool.true_or, Bool.false_or, Bool.or_true, Bool.or_false, wr, Option.bind_some, tn_add, tn_add1, tn_sub1, tn_0, tn_1, Int.toNat_natCast, List.length_cons, List.length_nil]
    rfl
  have z := step 0 (by omega)
  rw [Int.natCast_zero] at z
  rw [z, step 1 (by omega), step 2 (by omega), step 3 (by omega), step 4 (by omega), step 5 (by omega)]
  simp only [List.getD_cons_zero, List.getD_cons_succ]
  by_cases h0 : y0 < 0
  · simp (disch := omega) only [dp, dn, decide_true, decide_false, cond_true, cond_false, Bool.not_true, Bool.not_false, Bool.true_and, Bool.false_and, Bool.and_true, Bool.and_false, Bool.true_or, Bool.false_or, Bool.or_true, Bool.or_false, wr, Option.bind_some, tn_add, tn_add1, tn_sub1, tn_0, tn_1, Int.toNat_natCast]
  · by_cases h1 : y1 < 0
    · simp (disch := omega) only [dp, dn, decide_true, decide_false, cond_true, cond_false, Bool.not_true, Bool.not_false, Bool.true_and, Bool.false_and, Bool.and_true, Bool.and_false, Bool.true_or, Bool.false_or, Bool.or_true, Bool.or_false, wr, Option.bind_some, tn_add, tn_add1, tn_sub1, tn_0, tn_1, Int.toNat_natCast]
    · by_cases h2 : y2 < 0
      · simp (disch := omega) only [dp, dn, decide_true, decide_false, cond_true, cond_false, Bool.not_true, Bool.not_false, Bool.true_and, Bool.false_and, Bool.and_true, Bool.and_false, Bool.true_or, Bool.false_or, Bool.or_true, Bool.or_false, wr, Option.bind_some, tn_add, tn_add1, tn_sub1, tn_0, tn_1, Int.toNat_natCast]
      · by_cases h3 : y3 < 0
        · simp (disch := omega) only [dp, dn, decide_true, decide_false, cond_true, cond_false, Bool.not_true, Bool.not_false, Bool.true_and, Bool.false_and, Bool.and_true, Bool.and_false, Bool.true_or, Bool.false_or, Bool.or_true, Bool.or_false, wr, Option.bind_some, tn_add, tn_add1, tn_sub1, tn_0, tn_1, Int.toNat_natCast]
        · by_cases h4 : y4 < 0
          · simp (disch := omega) only [dp, dn, decide_true, decide_false, cond_true, cond_false, Bool.not_true, Bool.not_false, Bool.true_and, Bool.false_and, Bool.and_true, Bool.and_false, Bool.true_or, Bool.false_or, Bool.or_true, Bool.or_false, wr, Option.bind_some, tn_add, tn_add1, tn_sub1, tn_0, tn_1, Int.toNat_natCast]
          · have h5 : y5 < 0 := by omega
            simp (disch := omega) only [dp, dn, decide_true, decide_false, cond_true, cond_false, Bool.not_true, Bool.not_false, Bool.true_and, Bool.false_and, Bool.and_true, Bool.and_false, Bool.true_or, Bool.false_or, Bool.or_true, Bool.or_false, wr, Option.bind_some, tn_add, tn_add1, tn_sub1, tn_0, tn_1, Int.toNat_natCast]
theorem len2' (y0 y1 y2 y3 y4 y5 : Int) (h : ¬ (y0 < 0 ∨ y1 < 0 ∨ y2 < 0 ∨ y3 < 0 ∨ y4 < 0 ∨ y5 < 0)) : vokref1_Parse.l2 0 [y0, y1, y2, y3, y4, y5] = (vokref1_Make.f y0 y1 y2 y3 y4 y5).bind fun t7 => some (t7.1, t7.2.1, ()) := by
  have step : ∀ (i : Nat) (hi : i < 6), vokref1_Parse.l2 i [y0, y1, y2, y3, y4, y5] = bif decide ([y0, y1, y2, y3, y4, y5].getD i 0 < 0) then some (0, 4, ()) else vokref1_Parse.l2 (i + 1 : Nat) [y0, y1, y2, y3, y4, y5] := by
    intro i hi
    conv => lhs; rw [vokref1_Parse.l2_eq]
    simp (disch := omega) only [dp, dn, decide_true, decide_false, cond_true, cond_false, Bool.not_true, Bool.not_false, Bool.true_and, Bool.false_and, Bool.and_true, Bool.and_false, Bool.true_or, Bool.false_or, Bool.or_true, Bool.or_false, wr, Option.bind_some, tn_add, tn_add1, tn_sub1, tn_0, tn_1, Int.toNat_natCast, List.length_cons, List.length_nil]
    rfl
  have z := step 0 (by omega)
  rw [Int.natCast_zero] at z
  rw [z, step 1 (by omega), step 2 (by omega), step 3 (by omega), step 4 (by omega), step 5 (by omega)]
  simp only [List.getD_cons_zero, List.getD_cons_succ]
  simp (disch := omega) only [dp, dn, decide_true, decide_false, cond_true, cond_false, Bool.not_true, Bool.not_false, Bool.true_and, Bool.false_and, Bool.and_true, Bool.and_false, Bool.true_or, Bool.false_or, Bool.or_true, Bool.or_false, wr, Option.bind_some, tn_add, tn_add1, tn_sub1, tn_0, tn_1, Int.toNat_natCast]
  rw [vokref1_Parse.l2_eq]
  simp (disch := omega) only [dp, dn, decide_true, decide_false, cond_true, cond_false, Bool.not_true, Bool.not_false, Bool.true_and, Bool.false_and, Bool.and_true, Bool.and_false, Bool.true_or, Bool.false_or, Bool.or_true, Bool.or_false, wr, Option.bind_some, tn_add, tn_add1, tn_sub1, tn_0, tn_1, Int.toNat_natCast, List.length_cons, List.length_nil]
  rfl
/-- Moments out of texts. -/
theorem stamp_same (s : List UInt8) (hs : s.length ≤ 1000000) : ∃ t e, stamp_Parse.f (mkS s) = some (t, e, ()) ∧ vokref1_Parse.f (mkS s) = some (t, e, ()) := by
  rw [stamp_Parse.f_eq, vokref1_Parse.f_eq]
  by_cases c1 : (s.length : Int) < 15
  · exact ⟨0, 2, by simp (disch := omega) only [dp, dn, decide_true, decide_false, cond_true, cond_false, Bool.not_true, Bool.not_false, Bool.true_and, Bool.false_and, Bool.and_true, Bool.and_false, Bool.true_or, Bool.false_or, Bool.or_true, Bool.or_false, wr, Option.bind_some, tn_add, tn_add1, tn_sub1, tn_0, tn_1, Int.toNat_natCast, szS], by simp (disch := omega) only [dp, dn, decide_true, decide_false, cond_true, cond_false, Bool.not_true, Bool.not_false, Bool.true_and, Bool.false_and, Bool.and_true, Bool.and_false, Bool.true_or, Bool.false_or, Bool.or_true, Bool.or_false, wr, Option.bind_some, tn_add, tn_add1, tn_sub1, tn_0, tn_1, Int.toNat_natCast, szS]⟩
  · by_cases c2 : (s.length : Int) > 15
    · exact ⟨0, 4, by simp (disch := omega) only [dp, dn, decide_true, decide_false, cond_true, cond_false, Bool.not_true, Bool.not_false, Bool.true_and, Bool.false_and, Bool.and_true, Bool.and_false, Bool.true_or, Bool.false_or, Bool.or_true, Bool.or_false, wr, Option.bind_some, tn_add, tn_add1, tn_sub1, tn_0, tn_1, Int.toNat_natCast, szS, stamp_Parse.l1_eq], by simp (disch := omega) only [dp, dn, decide_true, decide_false, cond_true, cond_false, Bool.not_true, Bool.not_false, Bool.true_and, Bool.false_and, Bool.and_true, Bool.and_false, Bool.true_or, Bool.false_or, Bool.or_true, Bool.or_false, wr, Option.bind_some, tn_add, tn_add1, tn_sub1, tn_0, tn_1, Int.toNat_natCast, szS, vokref1_Parse.l1_eq]⟩
    · have hl : s.length = 15 := by omega
      have hbt : bt (mkS s) 8 = ((s.getD 8 0).toNat : Int) := bt_nat (mkS s) 8
      by_cases c3 : ((s.getD 8 0).toNat : Int) = 84
      · simp (disch := omega) only [dp, dn, decide_true, decide_false, cond_true, cond_false, Bool.not_true, Bool.not_false, Bool.true_and, Bool.false_and, Bool.and_true, Bool.and_false, Bool.true_or, Bool.false_or, Bool.or_true, Bool.or_false, wr, Option.bind_some, tn_add, tn_add1, tn_sub1, tn_0, tn_1, Int.toNat_natCast, szS, hbt, stamp_Parse.l1_eq, vokref1_Parse.l1_eq]
        have t4 : (4 : Int).toNat = 4 := rfl
        simp only [show Int.toNat 4 = 4 from rfl, show Int.toNat 6 = 6 from rfl, show Int.toNat 8 = 8 from rfl, show Int.toNat 9 = 9 from rfl, show Int.toNat 11 = 11 from rfl, show Int.toNat 13 = 13 from rfl, show Int.toNat 15 = 15 from rfl, hl, ex_S, Nat.sub_zero, List.drop_zero, Nat.reduceSub]
        have L : ∀ a b : Nat, a + b ≤ 15 → ((s.drop a).take b).length = b := fun a b h => by rw [List.length_take, List.length_drop]; omega
        have sp1 : s.take 8 = s.take 4 ++ ((s.drop 4).take 2 ++ (s.drop 6).take 2) := by
          have h1 : s.take 8 = s.take 4 ++ (s.drop 4).take 4 := by rw [← List.take_add]
          have h2 : (s.drop 4).take 4 = (s.drop 4).take 2 ++ (s.drop 6).take 2 := by rw [show (4 : Nat) = 2 + 2 from rfl, List.take_add, List.drop_drop]
          rw [h1, h2]
        have sp2 : (s.drop 9).take 6 = (s.drop 9).take 2 ++ ((s.drop 11).take 2 ++ (s.drop 13).take 2) := by
          have h1 : (s.drop 9).take 6 = (s.drop 9).take 2 ++ (s.drop 11).take 4 := by rw [show (6 : Nat) = 2 + 4 from rfl, List.take_add, List.drop_drop]
          have h2 : (s.drop 11).take 4 = (s.drop 11).take 2 ++ (s.drop 13).take 2 := by rw [show (4 : Nat) = 2 + 2 from rfl, List.take_add, List.drop_drop]
          rw [h1, h2]
        have L1 : (s.take 4).length = 4 := by rw [List.length_take]; omega
        have L2 := L 4 2 (by omega)
        have L3 := L 6 2 (by omega)
        have L4 := L 9 2 (by omega)
        have L5 := L 11 2 (by omega)
        have L6 := L 13 2 (by omega)
        obtain ⟨n1, e1, p1, q1⟩ := vnum' (s.take 4) (by omega)
        obtain ⟨n2, e2, p2, q2⟩ := vnum' ((s.drop 4).take 2) (by omega)
        obtain ⟨n3, e3, p3, q3⟩ := vnum' ((s.drop 6).take 2) (by omega)
        obtain ⟨n4, e4, p4, q4⟩ := vnum' ((s.drop 9).take 2) (by omega)
        obtain ⟨n5, e5, p5, q5⟩ := vnum' ((s.drop 11).take 2) (by omega)
        obtain ⟨n6, e6, p6, q6⟩ := vnum' ((s.drop 13).take 2) (by omega)
        have hA := snum (s.take 8) (by rw [List.length_take]; omega)
        have hB := snum ((s.drop 9).take 6) (by rw [List.length_take]; omega)
        rw [sp1] at hA
        rw [sp2] at hB
        rw [digs_app, digs_app] at hA hB
        rw [sp1, sp2]
        simp only [e1, e2, e3, e4, e5, e6, Option.bind_some]
        generalize s.take 4 = w1 at *
        generalize (s.drop 4).take 2 = w2 at *
        generalize (s.drop 6).take 2 = w3 at *
        generalize (s.drop 9).take 2 = w4 at *
        generalize (s.drop 11).take 2 = w5 at *
        generalize (s.drop 13).take 2 = w6 at *
        by_cases g1 : digs w1 ∧ digs w2 ∧ digs w3
        · by_cases g2 : digs w4 ∧ digs w5 ∧ digs w6
          · rw [hA.1 g1, hB.1 g2]
            have b1 := dval_lt w1 g1.1
            have b2 := dval_lt w2 g1.2.1
            have b3 := dval_lt w3 g1.2.2
            have b4 := dval_lt w4 g2.1
            have b5 := dval_lt w5 g2.2.1
            have b6 := dval_lt w6 g2.2.2
            rw [L1] at b1
            rw [L2] at b2
            rw [L3] at b3
            rw [L4] at b4
            rw [L5] at b5
            rw [L6] at b6
            have v1 : dval 0 (w1 ++ (w2 ++ w3)) = dval 0 w1 * 10000 + dval 0 w2 * 100 + dval 0 w3 := by
              rw [dval_app, dval_app, dval_mul w3, dval_mul w2, L2, L3]
              omega
            have v2 : dval 0 (w4 ++ (w5 ++ w6)) = dval 0 w4 * 10000 + dval 0 w5 * 100 + dval 0 w6 := by
              rw [dval_app, dval_app, dval_mul w6, dval_mul w5, L5, L6]
              omega
            rw [v1, v2]
            have p1 := p1 g1.1
            have p2 := p2 g1.2.1
            have p3 := p3 g1.2.2
            have p4 := p4 g2.1
            have p5 := p5 g2.2.1
            have p6 := p6 g2.2.2
            subst p1 p2 p3 p4 p5 p6
            rw [len2' _ _ _ _ _ _ (by omega)]
            generalize dval 0 w1 = a1 at *
            generalize dval 0 w2 = a2 at *
            generalize dval 0 w3 = a3 at *
            generalize dval 0 w4 = a4 at *
            generalize dval 0 w5 = a5 at *
            generalize dval 0 w6 = a6 at *
            obtain ⟨t, e, m1, m2⟩ := make_spec a1 a2 a3 a4 a5 a6 (by omega) (by omega) (by omega)
            refine ⟨t, e, ?_, by rw [m2]; rfl⟩
            have k1 : Int.tdiv ((a1 * 10000 + a2 * 100 + a3 : Nat) : Int) 10000 = a1 := by rw [tdn (by omega)]; omega
            have k2 : Int.tdiv ((a1 * 10000 + a2 * 100 + a3 : Nat) : Int) 100 = ((a1 * 100 + a2 : Nat) : Int) := by rw [tdn (by omega)]; omega
            have k3 : Int.tmod ((a1 * 100 + a2 : Nat) : Int) 100 = a2 := by rw [tmn (by omega)]; omega
            have k4 : Int.tmod ((a1 * 10000 + a2 * 100 + a3 : Nat) : Int) 100 = a3 := by rw [tmn (by omega)]; omega
            have j1 : Int.tdiv ((a4 * 10000 + a5 * 100 + a6 : Nat) : Int) 10000 = a4 := by rw [tdn (by omega)]; omega
            have j2 : Int.tdiv ((a4 * 10000 + a5 * 100 + a6 : Nat) : Int) 100 = ((a4 * 100 + a5 : Nat) : Int) := by rw [tdn (by omega)]; omega
            have j3 : Int.tmod ((a4 * 100 + a5 : Nat) : Int) 100 = a5 := by rw [tmn (by omega)]; omega
            have j4 : Int.tmod ((a4 * 10000 + a5 * 100 + a6 : Nat) : Int) 100 = a6 := by rw [tmn (by omega)]; omega
            simp (disch := omega) only [dp, dn, decide_true, decide_false, cond_true, cond_false, Bool.not_true, Bool.not_false, Bool.true_and, Bool.false_and, Bool.and_true, Bool.and_false, Bool.true_or, Bool.false_or, Bool.or_true, Bool.or_false, wr, Option.bind_some, tn_add, tn_add1, tn_sub1, tn_0, tn_1, Int.toNat_natCast, stamp_Parse.l2_eq, k1, k2, k4, j1, j2, j4]
            rw [k3, j3, m1]
            rfl
          · refine ⟨0, 4, ?_, ?_⟩
            · rw [hA.1 g1, hB.2 g2]
              simp (disch := omega) only [dp, dn, decide_true, decide_false, cond_true, cond_false, Bool.not_true, Bool.not_false, Bool.true_and, Bool.false_and, Bool.and_true, Bool.and_false, Bool.true_or, Bool.false_or, Bool.or_true, Bool.or_false, wr, Option.bind_some, tn_add, tn_add1, tn_sub1, tn_0, tn_1, Int.toNat_natCast, stamp_Parse.l2_eq]
            · refine len2 _ _ _ _ _ _ ?_
              by_cases z4 : digs w4
              · by_cases z5 : digs w5
                · have := q6 fun z6 => g2 ⟨z4, z5, z6⟩
                  omega
                · have := q5 z5
                  omega
              · have := q4 z4
                omega
        · refine ⟨0, 4, ?_, ?_⟩
          · rw [hA.2 g1]
            by_cases g2 : digs w4 ∧ digs w5 ∧ digs w6
            · rw [hB.1 g2]
              simp (disch := omega) only [dp, dn, decide_true, decide_false, cond_true, cond_false, Bool.not_true, Bool.not_false, Bool.true_and, Bool.false_and, Bool.and_true, Bool.and_false, Bool.true_or, Bool.false_or, Bool.or_true, Bool.or_false, wr, Option.bind_some, tn_add, tn_add1, tn_sub1, tn_0, tn_1, Int.toNat_natCast, stamp_Parse.l2_eq]
            · rw [hB.2 g2]
              simp (disch := omega) only [dp, dn, decide_true, decide_false, cond_true, cond_false, Bool.not_true, Bool.not_false, Bool.true_and, Bool.false_and, Bool.and_true, Bool.and_false, Bool.true_or, Bool.false_or, Bool.or_true, Bool.or_false, wr, Option.bind_some, tn_add, tn_add1, tn_sub1, tn_0, tn_1, Int.toNat_natCast, stamp_Parse.l2_eq]
          · refine len2 _ _ _ _ _ _ ?_
            by_cases z1 : digs w1
            · by_cases z2 : digs w2
              · have := q3 fun z3 => g1 ⟨z1, z2, z3⟩
                omega
              · have := q2 z2
                omega
            · have := q1 z1
              omega
      · exact ⟨0, 4, by simp (disch := omega) only [dp, dn, decide_true, decide_false, cond_true, cond_false, Bool.not_true, Bool.not_false, Bool.true_and, Bool.false_and, Bool.and_true, Bool.and_false, Bool.true_or, Bool.false_or, Bool.or_true, Bool.or_false, wr, Option.bind_some, tn_add, tn_add1, tn_sub1, tn_0, tn_1, Int.toNat_natCast, szS, hbt, stamp_Parse.l1_eq], by simp (disch := omega) only [dp, dn, decide_true, decide_false, cond_true, cond_false, Bool.not_true, Bool.not_false, Bool.true_and, Bool.false_and, Bool.and_true, Bool.and_false, Bool.true_or, Bool.false_or, Bool.or_true, Bool.or_false, wr, Option.bind_some, tn_add, tn_add1, tn_sub1, tn_0, tn_1, Int.toNat_natCast, szS, hbt, vokref1_Parse.l1_eq]⟩
end Go.GV.YtkkfgajlnpcpcaaGreatDoor
