/-
Numbers as texts: rule.number, the document's Dec, Num and number. (This session's own text.)
-/
import Derived.Test.YtkkfgajlnpcpcaaGreatDoorStrA
import Derived.Test.YtkkfgajlnpcpcaaGreatDoorDigits
set_option linter.unusedVariables false
set_option linter.unusedSimpArgs false
namespace Go.GV.YtkkfgajlnpcpcaaGreatDoor
open Go.Proofs
theorem szS (l : List UInt8) : (mkS l).size = l.length := by rw [size_B, B_mk]
theorem mkS_inj {a b : List UInt8} (h : mkS a = mkS b) : a = b := by have := congrArg B h; simpa [B_mk] using this
theorem strOf1 {d : Nat} (h : d < 10) : strOf [IntKind.u8.wrap ((48 : Int) + (d : Int))] = mkS [UInt8.ofNat (48 + d)] := by
  refine B_inj ?_
  rw [B_strOf, B_mk, Go.IntWalk.u8_in _ ⟨by omega, by omega⟩]
  simp only [List.map_cons, List.map_nil]
  rw [show ((48 : Int) + (d : Int)).toNat = 48 + d by omega]
theorem td10 {n : Int} (h : 0 ≤ n) : Int.tdiv n 10 = n / 10 := Int.tdiv_eq_ediv_of_nonneg h
theorem tm10 {n : Int} (h : 0 ≤ n) : Int.tmod n 10 = n % 10 := Int.tmod_eq_emod_of_nonneg h
theorem td10n {n : Int} (h : n ≤ 0) : Int.tdiv n 10 = -((-n) / 10) := by
  have : Int.tdiv n 10 = -Int.tdiv (-n) 10 := by rw [Int.neg_tdiv, Int.neg_neg]
  rw [this, td10 (by omega)]
theorem tm10n {n : Int} (h : n ≤ 0) : Int.tmod n 10 = -((-n) % 10) := by
  have : Int.tmod n 10 = -Int.tmod (-n) 10 := by rw [Int.neg_tmod, Int.neg_neg]
  rw [this, tm10 (by omega)]
theorem dec_pos : ∀ (u : Nat), (u : Int) ≤ 9223372036854775807 → vokref_Dec.f (u : Int) = some (mkS (Lib.decDigits u), ()) := by
  intro u
  induction u using Nat.strongRecOn with
  | ind u ih =>
    intro hu
    rw [vokref_Dec.f_eq, Lib.decDigits]
    by_cases h : u < 10
    · rw [dif_pos h]
      simp (disch := omega) only [dp, dn, decide_true, decide_false, cond_true, cond_false, Bool.not_true, Bool.not_false, Bool.true_and, Bool.false_and, Bool.and_true, Bool.and_false, Bool.true_or, Bool.false_or, Bool.or_true, Bool.or_false, wr, Option.bind_some, tn_add, tn_add1, tn_sub1, tn_0, tn_1, Int.toNat_natCast]
      rw [strOf1 h]
    · rw [dif_neg h]
      have e1 : Int.tdiv (u : Int) 10 = ((u / 10 : Nat) : Int) := by rw [td10 (by omega)]; omega
      have e2 : Int.tmod (u : Int) 10 = ((u % 10 : Nat) : Int) := by rw [tm10 (by omega)]; omega
      have h1 := ih (u / 10) (by omega) (by omega)
      have h2 := D_len20 (u / 10) (by omega)
      simp (disch := omega) only [dp, dn, decide_true, decide_false, cond_true, cond_false, Bool.not_true, Bool.not_false, Bool.true_and, Bool.false_and, Bool.and_true, Bool.and_false, Bool.true_or, Bool.false_or, Bool.or_true, Bool.or_false, wr, Option.bind_some, tn_add, tn_add1, tn_sub1, tn_0, tn_1, Int.toNat_natCast, e1, e2, h1, szS, strOf1 (show u % 10 < 10 by omega), List.length_singleton]
      rw [mk_app]
theorem dec_spec (n : Int) (h0 : -9223372036854775808 ≤ n) (h1 : n ≤ 9223372036854775807) : vokref_Dec.f n = some (mkS (Lib.itoa n), ()) := by
  by_cases hn : n < 0
  · rw [itoa_neg hn, Lib.decDigits, vokref_Dec.f_eq]
    have e1 : Int.tdiv n 10 = -((n.natAbs / 10 : Nat) : Int) := by rw [td10n (by omega)]; omega
    have e2 : Int.tmod n 10 = -((n.natAbs % 10 : Nat) : Int) := by rw [tm10n (by omega)]; omega
    have e3 : (48 : Int) - -((n.natAbs % 10 : Nat) : Int) = 48 + ((n.natAbs % 10 : Nat) : Int) := by omega
    have hm : (⟨#[45]⟩ : ByteArray) = mkS [45] := rfl
    by_cases h : n.natAbs < 10
    · have e4 : n.natAbs / 10 = 0 := by omega
      rw [dif_pos h]
      simp (disch := omega) only [dp, dn, decide_true, decide_false, cond_true, cond_false, Bool.not_true, Bool.not_false, Bool.true_and, Bool.false_and, Bool.and_true, Bool.and_false, Bool.true_or, Bool.false_or, Bool.or_true, Bool.or_false, wr, Option.bind_some, tn_add, tn_add1, tn_sub1, tn_0, tn_1, Int.toNat_natCast, e1, e2, e3, hm, szS, strOf1 (show n.natAbs % 10 < 10 by omega), List.length_singleton]
      rw [mk_app, Nat.mod_eq_of_lt h]
      rfl
    · have e5 : IntKind.i64.wrap (0 - IntKind.i64.wrap (-((n.natAbs / 10 : Nat) : Int))) = ((n.natAbs / 10 : Nat) : Int) := by simp (disch := omega) only [dp, dn, decide_true, decide_false, cond_true, cond_false, Bool.not_true, Bool.not_false, Bool.true_and, Bool.false_and, Bool.and_true, Bool.and_false, Bool.true_or, Bool.false_or, Bool.or_true, Bool.or_false, wr, Option.bind_some, tn_add, tn_add1, tn_sub1, tn_0, tn_1, Int.toNat_natCast]; omega
      have h1 := dec_pos (n.natAbs / 10) (by omega)
      have h2 := D_len20 (n.natAbs / 10) (by omega)
      have e6 : ¬ (-((n.natAbs / 10 : Nat) : Int)) = 0 := by omega
      rw [dif_neg h]
      rw [e1, e2, e5, h1]
      simp (disch := omega) only [dp, dn, decide_true, decide_false, cond_true, cond_false, Bool.not_true, Bool.not_false, Bool.true_and, Bool.false_and, Bool.and_true, Bool.and_false, Bool.true_or, Bool.false_or, Bool.or_true, Bool.or_false, wr, Option.bind_some, tn_add, tn_add1, tn_sub1, tn_0, tn_1, Int.toNat_natCast, e3, hm, szS, strOf1 (show n.natAbs % 10 < 10 by omega), List.length_singleton, mk_app, List.length_append]
      rfl
  · obtain ⟨u, rfl⟩ := Int.eq_ofNat_of_zero_le (show 0 ≤ n by omega)
    rw [dec_pos u h1, itoa_pos hn]
    rfl
/-! ### rule.number -/
theorem itoa_sem (n : Int) (h0 : -9223372036854775808 ≤ n) (h1 : n ≤ 9223372036854775807) : strconv_Itoa.f n = some (mkS (Lib.itoa n), ()) := by
  rw [strconv_Itoa.f_sem]
  show itoaS n = _
  unfold itoaS
  rw [dp h0, dp h1, cond_true, cond_true, itoaL_eq h0 h1]
  rfl
theorem atoi_sem (s : List UInt8) (hs : s.length ≤ 1000000) : strconv_Atoi.f (mkS s) = some ((atoiR (mkS s)).1, (atoiR (mkS s)).2, ()) := by
  rw [strconv_Atoi.f_sem]
  show atoiS (mkS s) = _
  unfold atoiS
  rw [dp (by rw [szS]; omega), cond_true]
theorem atoi_rng (s : ByteArray) : -9223372036854775808 ≤ (atoiR s).1 ∧ (atoiR s).1 ≤ 9223372036854775807 := by
  unfold atoiR
  cases h : Lib.atoiAll s.data.toList with
  | ok v => exact Lib.atoiAll_bounds h
  | range => exact Lib.atoiSat_bounds _
  | _ => exact ⟨by show (-9223372036854775808 : Int) ≤ 0; omega, by show (0 : Int) ≤ 9223372036854775807; omega⟩
theorem trim_minus (s : List UInt8) (hs : s.length ≤ 1000000) : strings_TrimPrefix.f (mkS s) ⟨#[45]⟩ = some (mkS (if s.head? = some 45 then s.tail else s), ()) := by
  have hp : stringslite_HasPrefix.f (mkS s) ⟨#[45]⟩ = some (decide (s.head? = some 45), ()) := slHasPrefix_one s 45
  rw [strings_TrimPrefix.f_eq, stringslite_TrimPrefix.f_eq, hp]
  have hz : (⟨#[45]⟩ : ByteArray).size = 1 := rfl
  by_cases h : s.head? = some 45
  · have h1 : 0 < s.length := by cases s with
      | nil => simp at h
      | cons _ _ => simp
    simp (disch := omega) only [dp, dn, decide_true, decide_false, cond_true, cond_false, Bool.not_true, Bool.not_false, Bool.true_and, Bool.false_and, Bool.and_true, Bool.and_false, Bool.true_or, Bool.false_or, Bool.or_true, Bool.or_false, wr, Option.bind_some, tn_add, tn_add1, tn_sub1, tn_0, tn_1, Int.toNat_natCast, hz, szS, if_pos h, Int.natCast_one]
    rw [show (mkS s).extract 1 s.length = mkS s.tail from B_inj (by rw [← szS s, B_exte, B_mk, B_mk, List.drop_one])]
  · simp (disch := omega) only [dp, dn, decide_true, decide_false, cond_true, cond_false, Bool.not_true, Bool.not_false, Bool.true_and, Bool.false_and, Bool.and_true, Bool.and_false, Bool.true_or, Bool.false_or, Bool.or_true, Bool.or_false, wr, Option.bind_some, tn_add, tn_add1, tn_sub1, tn_0, tn_1, Int.toNat_natCast, if_neg h]
theorem number_spec (s : List UInt8) (hs : s.length ≤ 1000000) :
    (∃ n, isN s n ∧ rule_number.f (mkS s) = some (n, true, ())) ∨ ((∀ n, ¬ isN s n) ∧ ∃ n, rule_number.f (mkS s) = some (n, false, ())) := by
  have hr := atoi_rng (mkS s)
  have hA := atoi_sem s hs
  rw [rule_number.f_eq, hA]
  simp only [Option.bind_some]
  have small : ∀ n, isN s n → atoiR (mkS s) = (n, true) := by
    rintro n ⟨rfl, h0, h1⟩
    unfold atoiR
    rw [show (mkS (Lib.itoa n)).data.toList = Lib.itoa n from rfl, atoi_small h0 h1]
  generalize hp : atoiR (mkS s) = p at hr small
  obtain ⟨n, b⟩ := p
  simp only at hr small ⊢
  cases b with
  | false => exact .inr ⟨fun m hm => (by have := small m hm; cases this), n, rfl⟩
  | true =>
    have hI := itoa_sem n hr.1 hr.2
    have hT := trim_minus s hs
    rw [cond_true, hI]
    simp only [Option.bind_some, beq_S]
    by_cases he : mkS (Lib.itoa n) = mkS s
    · have he' := mkS_inj he
      rw [dp he, cond_true, hT]
      simp only [Option.bind_some, szS]
      have hl : ((if s.head? = some 45 then s.tail else s).length : Int) = (Lib.itoa n).length - (if n < 0 then 1 else 0) := by
        rw [← he']
        by_cases hn : n < 0
        · rw [itoa_neg hn, if_pos hn, if_pos (show (45 :: Lib.decDigits n.natAbs).head? = some 45 from rfl)]
          simp
        · rw [itoa_pos hn, if_neg hn, if_neg]
          · simp
          · intro q
            cases hD : Lib.decDigits n.toNat with
            | nil => exact D_ne _ hD
            | cons c r =>
              rw [hD] at q
              simp at q
              have := (D_head hD).2
              rw [q] at this
              exact this rfl
      rw [hl]
      by_cases h9 : -999999999 ≤ n ∧ n ≤ 999999999
      · rw [dp ((isN_len n).2 h9)]
        exact .inl ⟨n, ⟨he'.symm, h9⟩, rfl⟩
      · rw [dn fun q => h9 ((isN_len n).1 q)]
        refine .inr ⟨fun m hm => ?_, n, rfl⟩
        have := small m hm
        simp only [Prod.mk.injEq, and_true] at this
        subst this
        exact h9 hm.2
    · rw [dn he, cond_false]
      refine .inr ⟨fun m hm => ?_, n, rfl⟩
      have := small m hm
      simp only [Prod.mk.injEq, and_true] at this
      subst this
      exact he (by rw [hm.1])
/-! ### The document's number -/
theorem num_l6 (s : List UInt8) (m : Int) (h0 : -9223372036854775808 ≤ m) (h1 : m ≤ 9223372036854775807) : vokref_Num.l6 (mkS s) m = some (m, decide (s = Lib.itoa m), ()) := by
  rw [vokref_Num.l6_eq, dec_spec m h0 h1]
  simp only [Option.bind_some, beq_S]
  rw [show decide (mkS (Lib.itoa m) = mkS s) = decide (s = Lib.itoa m) from decide_eq_decide.2 ⟨fun h => (mkS_inj h).symm, fun h => by rw [← h]⟩]
/-- What Num tells: a number of its own digits, or none. -/
def numOK (s : List UInt8) (r : Option (Int × Bool × Unit)) : Prop := ∃ m b, r = some (m, b, ()) ∧ -9223372036854775808 ≤ m ∧ m ≤ 9223372036854775807 ∧ (b = true → s = Lib.itoa m)
theorem num_l4 (s : List UInt8) (neg : Bool) (d : List UInt8) (hd : d.length ≤ 19) : ∀ (k i v : Nat), d.length - i = k → i ≤ d.length → v ≤ 9223372036854775808 →
    numOK s (vokref_Num.l4 (mkS s) neg (mkS d) (-(v : Int)) i) ∧
    ((∀ c ∈ d.drop i, dig c) → dval v (d.drop i) ≤ 999999999 → vokref_Num.l4 (mkS s) neg (mkS d) (-(v : Int)) i = vokref_Num.l6 (mkS s) (if neg = true then -(dval v (d.drop i) : Int) else dval v (d.drop i))) := by
  have fail : ∀ m : Int, m = 0 → numOK s (some (m, false, ())) := fun m hm => ⟨m, false, rfl, by omega, by omega, by simp⟩
  have good : ∀ m : Int, -9223372036854775808 ≤ m → m ≤ 9223372036854775807 → numOK s (vokref_Num.l6 (mkS s) m) := fun m h0 h1 => ⟨m, _, num_l6 s m h0 h1, h0, h1, fun h => of_decide_eq_true h⟩
  intro k
  induction k with
  | zero =>
    intro i v hk hi hv
    have e : i = d.length := by omega
    subst e
    rw [vokref_Num.l4_eq, List.drop_length]
    simp (disch := omega) only [dp, dn, decide_true, decide_false, cond_true, cond_false, Bool.not_true, Bool.not_false, Bool.true_and, Bool.false_and, Bool.and_true, Bool.and_false, Bool.true_or, Bool.false_or, Bool.or_true, Bool.or_false, wr, Option.bind_some, tn_add, tn_add1, tn_sub1, tn_0, tn_1, Int.toNat_natCast, szS]
    cases neg with
    | true =>
      simp (disch := omega) only [dp, dn, decide_true, decide_false, cond_true, cond_false, Bool.not_true, Bool.not_false, Bool.true_and, Bool.false_and, Bool.and_true, Bool.and_false, Bool.true_or, Bool.false_or, Bool.or_true, Bool.or_false, wr, Option.bind_some, tn_add, tn_add1, tn_sub1, tn_0, tn_1, Int.toNat_natCast]
      exact ⟨good _ (by omega) (by omega), fun _ _ => rfl⟩
    | false =>
      simp (disch := omega) only [dp, dn, decide_true, decide_false, cond_true, cond_false, Bool.not_true, Bool.not_false, Bool.true_and, Bool.false_and, Bool.and_true, Bool.and_false, Bool.true_or, Bool.false_or, Bool.or_true, Bool.or_false, wr, Option.bind_some, tn_add, tn_add1, tn_sub1, tn_0, tn_1, Int.toNat_natCast]
      by_cases hm : (-(v : Int)) = -9223372036854775808
      · simp (disch := omega) only [dp, dn, decide_true, decide_false, cond_true, cond_false, Bool.not_true, Bool.not_false, Bool.true_and, Bool.false_and, Bool.and_true, Bool.and_false, Bool.true_or, Bool.false_or, Bool.or_true, Bool.or_false, wr, Option.bind_some, tn_add, tn_add1, tn_sub1, tn_0, tn_1, Int.toNat_natCast]
        refine ⟨fail 0 rfl, fun _ hq => absurd hm ?_⟩
        have hq : v ≤ 999999999 := hq
        clear hm hv good fail
        omega
      · simp (disch := omega) only [dp, dn, decide_true, decide_false, cond_true, cond_false, Bool.not_true, Bool.not_false, Bool.true_and, Bool.false_and, Bool.and_true, Bool.and_false, Bool.true_or, Bool.false_or, Bool.or_true, Bool.or_false, wr, Option.bind_some, tn_add, tn_add1, tn_sub1, tn_0, tn_1, Int.toNat_natCast]
        have e2 : (0 : Int) - -(v : Int) = v := by omega
        rw [e2]
        exact ⟨good _ (by omega) (by omega), fun _ _ => rfl⟩
  | succ k ih =>
    intro i v hk hi hv
    have hlt : i < d.length := by omega
    have hbt : bt (mkS d) (i : Int) = ((d.getD i 0).toNat : Int) := bt_nat (mkS d) i
    have hc := u8_bd (d.getD i 0)
    rw [vokref_Num.l4_eq, drop_getD' 0 hlt]
    simp (disch := omega) only [dp, dn, decide_true, decide_false, cond_true, cond_false, Bool.not_true, Bool.not_false, Bool.true_and, Bool.false_and, Bool.and_true, Bool.and_false, Bool.true_or, Bool.false_or, Bool.or_true, Bool.or_false, wr, Option.bind_some, tn_add, tn_add1, tn_sub1, tn_0, tn_1, Int.toNat_natCast, szS, hbt]
    by_cases c1 : ((d.getD i 0).toNat : Int) - 48 < 0
    · simp (disch := omega) only [dp, dn, decide_true, decide_false, cond_true, cond_false, Bool.not_true, Bool.not_false, Bool.true_and, Bool.false_and, Bool.and_true, Bool.and_false, Bool.true_or, Bool.false_or, Bool.or_true, Bool.or_false, wr, Option.bind_some, tn_add, tn_add1, tn_sub1, tn_0, tn_1, Int.toNat_natCast, vokref_Num.l5_eq]
      refine ⟨fail 0 rfl, fun hq => ?_⟩
      have := hq _ List.mem_cons_self
      unfold dig at this
      omega
    · by_cases c2 : ((d.getD i 0).toNat : Int) - 48 > 9
      · simp (disch := omega) only [dp, dn, decide_true, decide_false, cond_true, cond_false, Bool.not_true, Bool.not_false, Bool.true_and, Bool.false_and, Bool.and_true, Bool.and_false, Bool.true_or, Bool.false_or, Bool.or_true, Bool.or_false, wr, Option.bind_some, tn_add, tn_add1, tn_sub1, tn_0, tn_1, Int.toNat_natCast, vokref_Num.l5_eq]
        refine ⟨fail 0 rfl, fun hq => ?_⟩
        have := hq _ List.mem_cons_self
        unfold dig at this
        omega
      · have e1 : Int.tdiv (-9223372036854775808 + (((d.getD i 0).toNat : Int) - 48)) 10 = -((9223372036854775808 - (((d.getD i 0).toNat : Int) - 48)) / 10) := by
          rw [td10n (by omega)]
          congr 2
          omega
        simp (disch := omega) only [dp, dn, decide_true, decide_false, cond_true, cond_false, Bool.not_true, Bool.not_false, Bool.true_and, Bool.false_and, Bool.and_true, Bool.and_false, Bool.true_or, Bool.false_or, Bool.or_true, Bool.or_false, wr, Option.bind_some, tn_add, tn_add1, tn_sub1, tn_0, tn_1, Int.toNat_natCast, e1]
        by_cases c3 : -(v : Int) < -((9223372036854775808 - (((d.getD i 0).toNat : Int) - 48)) / 10)
        · simp (disch := omega) only [dp, dn, decide_true, decide_false, cond_true, cond_false, Bool.not_true, Bool.not_false, Bool.true_and, Bool.false_and, Bool.and_true, Bool.and_false, Bool.true_or, Bool.false_or, Bool.or_true, Bool.or_false, wr, Option.bind_some, tn_add, tn_add1, tn_sub1, tn_0, tn_1, Int.toNat_natCast, vokref_Num.l5_eq]
          refine ⟨fail 0 rfl, fun hq hv2 => ?_⟩
          have h1 := dval_ge (d.drop (i + 1)) (10 * v + ((d.getD i 0).toNat - 48))
          have hv2 : dval (10 * v + ((d.getD i 0).toNat - 48)) (d.drop (i + 1)) ≤ 999999999 := hv2
          omega
        · have e2 : (10 : Int) * -(v : Int) - (((d.getD i 0).toNat : Int) - 48) = -((10 * v + ((d.getD i 0).toNat - 48) : Nat) : Int) := by omega
          simp (disch := omega) only [dp, dn, decide_true, decide_false, cond_true, cond_false, Bool.not_true, Bool.not_false, Bool.true_and, Bool.false_and, Bool.and_true, Bool.and_false, Bool.true_or, Bool.false_or, Bool.or_true, Bool.or_false, wr, Option.bind_some, tn_add, tn_add1, tn_sub1, tn_0, tn_1, Int.toNat_natCast, vokref_Num.l5_eq]
          rw [e2]
          obtain ⟨h1, h2⟩ := ih (i + 1) (10 * v + ((d.getD i 0).toNat - 48)) (by omega) (by omega) (by omega)
          exact ⟨h1, fun hq hv2 => h2 (fun c hc => hq c (List.mem_cons_of_mem _ hc)) hv2⟩
theorem num_l2 (s : List UInt8) (neg : Bool) (d : List UInt8) : numOK s (vokref_Num.l2 (mkS s) neg (mkS d)) ∧
    ((∀ c ∈ d, dig c) → 0 < d.length → d.length ≤ 19 → dval 0 d ≤ 999999999 → vokref_Num.l2 (mkS s) neg (mkS d) = vokref_Num.l6 (mkS s) (if neg = true then -(dval 0 d : Int) else dval 0 d)) := by
  have fail : numOK s (some (0, false, ())) := ⟨0, false, rfl, by omega, by omega, by simp⟩
  rw [vokref_Num.l2_eq]
  by_cases c1 : (d.length : Int) < 1
  · simp (disch := omega) only [dp, dn, decide_true, decide_false, cond_true, cond_false, Bool.not_true, Bool.not_false, Bool.true_and, Bool.false_and, Bool.and_true, Bool.and_false, Bool.true_or, Bool.false_or, Bool.or_true, Bool.or_false, wr, Option.bind_some, tn_add, tn_add1, tn_sub1, tn_0, tn_1, Int.toNat_natCast, szS, vokref_Num.l3_eq]
    exact ⟨fail, fun _ h => by omega⟩
  · by_cases c2 : (d.length : Int) > 19
    · simp (disch := omega) only [dp, dn, decide_true, decide_false, cond_true, cond_false, Bool.not_true, Bool.not_false, Bool.true_and, Bool.false_and, Bool.and_true, Bool.and_false, Bool.true_or, Bool.false_or, Bool.or_true, Bool.or_false, wr, Option.bind_some, tn_add, tn_add1, tn_sub1, tn_0, tn_1, Int.toNat_natCast, szS, vokref_Num.l3_eq]
      exact ⟨fail, fun _ _ h => by omega⟩
    · simp (disch := omega) only [dp, dn, decide_true, decide_false, cond_true, cond_false, Bool.not_true, Bool.not_false, Bool.true_and, Bool.false_and, Bool.and_true, Bool.and_false, Bool.true_or, Bool.false_or, Bool.or_true, Bool.or_false, wr, Option.bind_some, tn_add, tn_add1, tn_sub1, tn_0, tn_1, Int.toNat_natCast, szS, vokref_Num.l3_eq]
      obtain ⟨h1, h2⟩ := num_l4 s neg d (by omega) _ 0 0 rfl (Nat.zero_le _) (by omega)
      rw [Int.natCast_zero, Int.neg_zero] at h1 h2
      rw [List.drop_zero] at h2
      exact ⟨h1, fun q1 _ _ q2 => h2 q1 q2⟩
theorem num_spec (s : List UInt8) : numOK s (vokref_Num.f (mkS s)) ∧ ∀ n, isN s n → vokref_Num.f (mkS s) = some (n, true, ()) := by
  have hbt : bt (mkS s) 0 = ((s.getD 0 0).toNat : Int) := bt_nat (mkS s) 0
  cases s with
  | nil =>
    have h0 := num_l2 [] false []
    rw [vokref_Num.f_eq]
    simp (disch := omega) only [dp, dn, decide_true, decide_false, cond_true, cond_false, Bool.not_true, Bool.not_false, Bool.true_and, Bool.false_and, Bool.and_true, Bool.and_false, Bool.true_or, Bool.false_or, Bool.or_true, Bool.or_false, wr, Option.bind_some, tn_add, tn_add1, tn_sub1, tn_0, tn_1, Int.toNat_natCast, szS, List.length_nil, Int.natCast_zero, vokref_Num.l1_eq]
    refine ⟨h0.1, fun n hn => ?_⟩
    obtain ⟨h1, _⟩ := hn
    unfold Lib.itoa at h1
    split at h1
    · cases h1
    · exact absurd h1.symm (D_ne _)
  | cons c r =>
    have hg : (c :: r).getD 0 0 = c := rfl
    rw [hg] at hbt
    rw [vokref_Num.f_eq]
    by_cases hc : (c.toNat : Int) = 45
    · have e1 : (mkS (c :: r)).extract 1 (r.length + 1) = mkS r := B_inj (by rw [show r.length + 1 = (mkS (c :: r)).size by rw [szS]; rfl, B_exte, B_mk, B_mk]; rfl)
      have h0 := num_l2 (c :: r) true r
      have h45 : c = 45 := (u8_eq c 45 (by decide)).1 (show (c.toNat : Int) = ((45 : Nat) : Int) from hc)
      simp (disch := omega) only [dp, dn, decide_true, decide_false, cond_true, cond_false, Bool.not_true, Bool.not_false, Bool.true_and, Bool.false_and, Bool.and_true, Bool.and_false, Bool.true_or, Bool.false_or, Bool.or_true, Bool.or_false, wr, Option.bind_some, tn_add, tn_add1, tn_sub1, tn_0, tn_1, Int.toNat_natCast, szS, List.length_cons, hbt, vokref_Num.l1_eq, e1]
      refine ⟨h0.1, fun n hn => ?_⟩
      obtain ⟨h1, h2, h3⟩ := hn
      by_cases hneg : n < 0
      · rw [itoa_neg hneg] at h1
        have hr := (List.cons.inj h1).2
        have h9 := (D_len9 n.natAbs).2 (by omega)
        rw [h0.2 (by rw [hr]; exact D_dig _) (by rw [hr]; exact D_pos _) (by rw [hr]; omega) (by rw [hr, D_val]; omega), if_pos rfl, hr, D_val, num_l6 _ _ (by omega) (by omega)]
        have e2 : -((n.natAbs : Nat) : Int) = n := by omega
        rw [e2, dp (by rw [itoa_neg hneg, h45])]
      · rw [itoa_pos hneg] at h1
        exact absurd (by rw [h45]; rfl) (D_head h1.symm).2
    · have h0 := num_l2 (c :: r) false (c :: r)
      simp (disch := omega) only [dp, dn, decide_true, decide_false, cond_true, cond_false, Bool.not_true, Bool.not_false, Bool.true_and, Bool.false_and, Bool.and_true, Bool.and_false, Bool.true_or, Bool.false_or, Bool.or_true, Bool.or_false, wr, Option.bind_some, tn_add, tn_add1, tn_sub1, tn_0, tn_1, Int.toNat_natCast, szS, List.length_cons, hbt, vokref_Num.l1_eq]
      refine ⟨h0.1, fun n hn => ?_⟩
      obtain ⟨h1, h2, h3⟩ := hn
      by_cases hneg : n < 0
      · rw [itoa_neg hneg] at h1
        have := (List.cons.inj h1).1
        subst this
        exact absurd rfl hc
      · rw [itoa_pos hneg] at h1
        have h9 := (D_len9 n.toNat).2 (by omega)
        rw [h0.2 (by rw [h1]; exact D_dig _) (by rw [h1]; exact D_pos _) (by rw [h1]; omega) (by rw [h1, D_val]; omega), if_neg (by simp), num_l6 _ _ (by omega) (by rw [h1, D_val]; omega)]
        have e2 : ((dval 0 (c :: r) : Nat) : Int) = n := by rw [h1, D_val]; omega
        rw [e2, dp (by rw [itoa_pos hneg, h1])]
theorem vnumber_spec (s : List UInt8) (hs : s.length ≤ 1000000) :
    (∃ n, isN s n ∧ vokref4_number.f (mkS s) = some (n, true, ())) ∨ ((∀ n, ¬ isN s n) ∧ ∃ n, vokref4_number.f (mkS s) = some (n, false, ())) := by
  obtain ⟨⟨m, b, h1, h2, h3, h4⟩, h5⟩ := num_spec s
  by_cases hn : ∃ n, isN s n
  · obtain ⟨n, hn⟩ := hn
    have h6 := h5 n hn
    have h7 := (isN_len n).2 hn.2
    rw [← hn.1] at h7
    refine .inl ⟨n, hn, ?_⟩
    rw [vokref4_number.f_eq, h6]
    by_cases c1 : n < 0
    · rw [if_pos c1] at h7
      simp (disch := omega) only [dp, dn, decide_true, decide_false, cond_true, cond_false, Bool.not_true, Bool.not_false, Bool.true_and, Bool.false_and, Bool.and_true, Bool.and_false, Bool.true_or, Bool.false_or, Bool.or_true, Bool.or_false, wr, Option.bind_some, tn_add, tn_add1, tn_sub1, tn_0, tn_1, Int.toNat_natCast, szS]
    · rw [if_neg c1] at h7
      simp (disch := omega) only [dp, dn, decide_true, decide_false, cond_true, cond_false, Bool.not_true, Bool.not_false, Bool.true_and, Bool.false_and, Bool.and_true, Bool.and_false, Bool.true_or, Bool.false_or, Bool.or_true, Bool.or_false, wr, Option.bind_some, tn_add, tn_add1, tn_sub1, tn_0, tn_1, Int.toNat_natCast, szS]
  · refine .inr ⟨fun n h => hn ⟨n, h⟩, m, ?_⟩
    rw [vokref4_number.f_eq, h1]
    cases b with
    | false =>
      by_cases c1 : m < 0
      · simp (disch := omega) only [dp, dn, decide_true, decide_false, cond_true, cond_false, Bool.not_true, Bool.not_false, Bool.true_and, Bool.false_and, Bool.and_true, Bool.and_false, Bool.true_or, Bool.false_or, Bool.or_true, Bool.or_false, wr, Option.bind_some, tn_add, tn_add1, tn_sub1, tn_0, tn_1, Int.toNat_natCast]
      · simp (disch := omega) only [dp, dn, decide_true, decide_false, cond_true, cond_false, Bool.not_true, Bool.not_false, Bool.true_and, Bool.false_and, Bool.and_true, Bool.and_false, Bool.true_or, Bool.false_or, Bool.or_true, Bool.or_false, wr, Option.bind_some, tn_add, tn_add1, tn_sub1, tn_0, tn_1, Int.toNat_natCast]
    | true =>
      have he := h4 rfl
      have h7 : ¬ ((s.length : Int) - (if m < 0 then 1 else 0) ≤ 9) := fun q => hn ⟨m, he, (isN_len m).1 (by rw [← he]; exact q)⟩
      by_cases c1 : m < 0
      · rw [if_pos c1] at h7
        simp (disch := omega) only [dp, dn, decide_true, decide_false, cond_true, cond_false, Bool.not_true, Bool.not_false, Bool.true_and, Bool.false_and, Bool.and_true, Bool.and_false, Bool.true_or, Bool.false_or, Bool.or_true, Bool.or_false, wr, Option.bind_some, tn_add, tn_add1, tn_sub1, tn_0, tn_1, Int.toNat_natCast, szS]
      · rw [if_neg c1] at h7
        simp (disch := omega) only [dp, dn, decide_true, decide_false, cond_true, cond_false, Bool.not_true, Bool.not_false, Bool.true_and, Bool.false_and, Bool.and_true, Bool.and_false, Bool.true_or, Bool.false_or, Bool.or_true, Bool.or_false, wr, Option.bind_some, tn_add, tn_add1, tn_sub1, tn_0, tn_1, Int.toNat_natCast, szS]
end Go.GV.YtkkfgajlnpcpcaaGreatDoor
