/-
Part of the words that the laws of this seat are proved with: no statement of its own, no conditions.
-/
import Derived.Test.YtkkfgajlnpcpcaaGreatDoorZ11
import Derived.Lib.ItoaLen
import Derived.Shelf.Strconv.AtoiAll
set_option linter.unusedVariables false
set_option linter.unusedSimpArgs false
namespace Go.GV.YtkkfgajlnpcpcaaGreatDoor
def dval : Nat → List UInt8 → Nat
 | a, [] => a
 | a, c :: l => dval (10 * a + (c.toNat - 48)) l
theorem dval_app : ∀ (l m : List UInt8) (a : Nat), dval a (l ++ m) = dval (dval a l) m
 | [], _, _ => rfl
 | c :: l, m, a => dval_app l m _
theorem dval_ge : ∀ (l : List UInt8) (a : Nat), a ≤ dval a l
 | [], _ => Nat.le_refl _
 | c :: l, a => Nat.le_trans (by omega) (dval_ge l _)
def dig (c : UInt8) : Prop := 48 ≤ c.toNat ∧ c.toNat ≤ 57
theorem of48 {d : Nat} (h : d < 10) : (UInt8.ofNat (48 + d)).toNat = 48 + d := by
 rw [UInt8.toNat_ofNat', Nat.mod_eq_of_lt (by omega)]
theorem D_dig : ∀ (u : Nat), ∀ c ∈ Lib.decDigits u, dig c := by
 intro u
 induction u using Nat.strongRecOn with
 | ind u ih =>
  intro c hc
  rw [Lib.decDigits] at hc
  by_cases h : u < 10
  ·rw [dif_pos h, List.mem_singleton] at hc
   subst hc
   unfold dig
   rw [of48 h]
   omega
  ·rw [dif_neg h] at hc
   rcases List.mem_append.1 hc with h1 | h1
   ·exact ih (u / 10) (by omega) c h1
   ·rw [List.mem_singleton] at h1
    subst h1
    unfold dig
    rw [of48 (by omega)]
    omega
theorem D_val (u : Nat) : dval 0 (Lib.decDigits u) = u := by
 induction u using Nat.strongRecOn with
 | ind u ih =>
  by_cases h : u < 10
  ·have e : Lib.decDigits u = [UInt8.ofNat (48 + u)] := by rw [Lib.decDigits, dif_pos h]
   have h8 := of48 h
   rw [e]
   generalize UInt8.ofNat (48 + u) = c at h8
   show 10 * 0 + (c.toNat - 48) = u
   omega
  ·have e : Lib.decDigits u = Lib.decDigits (u / 10) ++ [UInt8.ofNat (48 + u % 10)] := by rw [Lib.decDigits, dif_neg h]
   rw [e, dval_app, ih (u / 10) (by omega)]
   have h8 := of48 (show u % 10 < 10 by omega)
   generalize UInt8.ofNat (48 + u % 10) = c at h8
   show 10 * (u / 10) + (c.toNat - 48) = u
   omega
theorem D_len (u : Nat) : (Lib.decDigits u).length = Lib.nDigits u := Lib.decDigits_length u
theorem D_pos (u : Nat) : 0 < (Lib.decDigits u).length := by rw [D_len]; exact Lib.nDigits_pos u
theorem D_ne (u : Nat) : Lib.decDigits u ≠ [] := fun h => by have := D_pos u; rw [h] at this; simp at this
theorem D_len9 (u : Nat) : (Lib.decDigits u).length ≤ 9 ↔ u ≤ 999999999 := by
 rw [D_len]
 have up : ∀ (k u : Nat), u < 10 ^ (k + 1) → Lib.nDigits u ≤ k + 1 := by
  intro k
  induction k with
  | zero => intro u h; rw [Lib.nDigits_small (by simpa using h)]; omega
  | succ k ih =>
   intro u h
   by_cases hu : u < 10
   ·rw [Lib.nDigits_small hu]; omega
   ·rw [Lib.nDigits_big hu]
    have := ih (u / 10) (by rw [Nat.pow_succ] at h; omega)
    omega
 have dn : ∀ (k u : Nat), 10 ^ k ≤ u → k + 1 ≤ Lib.nDigits u := by
  intro k
  induction k with
  | zero => intro u h; exact Lib.nDigits_pos u
  | succ k ih =>
   intro u h
   have h1 : 0 < 10 ^ k := Nat.pow_pos (by decide)
   rw [Nat.pow_succ] at h
   rw [Lib.nDigits_big (by omega)]
   have := ih (u / 10) (by omega)
   omega
 constructor
 ·intro h
  refine Nat.le_of_not_lt fun hu => ?_
  have := dn 9 u (by omega)
  omega
 ·intro h
  exact up 8 u (by omega)
theorem D_len20 (u : Nat) (h : u < 18446744073709551616) : (Lib.decDigits u).length ≤ 20 := by rw [D_len]; exact Lib.nDigits_le20 u h
theorem parse_ok (l : List UInt8) : ∀ (a : Nat), (∀ c ∈ l, dig c) → dval a l < 1844674407370955161 → Lib.parseUint10 a l = .ok (dval a l) := by
 induction l with
 | nil => intro a _ _; rfl
 | cons c l ih =>
  intro a hd hv
  have hc := hd c List.mem_cons_self
  have h1 := dval_ge l (10 * a + (c.toNat - 48))
  have hv : dval (10 * a + (c.toNat - 48)) l < 1844674407370955161 := hv
  show _ = Lib.NumEnd.ok (dval (10 * a + (c.toNat - 48)) l)
  unfold dig at hc
  have e : a * 10 + (c.toNat - 48) = 10 * a + (c.toNat - 48) := by omega
  rw [Lib.parseUint10, if_pos hc, if_neg (by omega), if_neg (by omega), e]
  exact ih _ (fun x hx => hd x (List.mem_cons_of_mem _ hx)) hv
def isN (s : List UInt8) (n : Int) : Prop := s = Lib.itoa n ∧ -999999999 ≤ n ∧ n ≤ 999999999
theorem itoa_neg {n : Int} (h : n < 0) : Lib.itoa n = 45 :: Lib.decDigits n.natAbs := by unfold Lib.itoa; rw [if_pos h]
theorem itoa_pos {n : Int} (h : ¬ n < 0) : Lib.itoa n = Lib.decDigits n.toNat := by unfold Lib.itoa; rw [if_neg h]
theorem D_head {u : Nat} {c : UInt8} {r : List UInt8} (h : Lib.decDigits u = c :: r) : c.toNat ≠ 43 ∧ c.toNat ≠ 45 := by
 have := D_dig u c (by rw [h]; exact List.mem_cons_self)
 unfold dig at this
 omega
theorem itoa_inj {n m : Int} (h : Lib.itoa n = Lib.itoa m) : n = m := by
 by_cases h1 : n < 0
 ·by_cases h2 : m < 0
  ·rw [itoa_neg h1, itoa_neg h2] at h
   have := congrArg (dval 0) (List.cons.inj h).2
   rw [D_val, D_val] at this
   omega
  ·rw [itoa_neg h1, itoa_pos h2] at h
   exact absurd rfl (D_head h.symm).2
 ·by_cases h2 : m < 0
  ·rw [itoa_pos h1, itoa_neg h2] at h
   exact absurd rfl (D_head h).2
  ·rw [itoa_pos h1, itoa_pos h2] at h
   have := congrArg (dval 0) h
   rw [D_val, D_val] at this
   omega
theorem atoi_small {n : Int} (h0 : -999999999 ≤ n) (h1 : n ≤ 999999999) : Lib.atoiAll (Lib.itoa n) = .ok n := by
 by_cases hn : n < 0
 ·rw [itoa_neg hn]
  unfold Lib.atoiAll Lib.parseMag
  simp only
  have e45 : UInt8.toNat 45 = 45 := rfl
  simp only [e45, or_true, if_true, not_true, false_and, if_false, true_and]
  rw [if_neg (D_ne _), parse_ok _ 0 (D_dig _) (by rw [D_val]; omega), D_val]
  simp only
  rw [if_neg (by omega)]
  congr 1
  omega
 ·rw [itoa_pos hn]
  cases hD : Lib.decDigits n.toNat with
  | nil => exact absurd hD (D_ne _)
  | cons c r =>
   obtain ⟨q1, q2⟩ := D_head hD
   unfold Lib.atoiAll Lib.parseMag
   simp only
   rw [if_neg (show ¬ (c.toNat = 43 ∨ c.toNat = 45) from fun q => q.elim q1 q2), if_neg (by simp), ← hD, parse_ok _ 0 (D_dig _) (by rw [D_val]; omega), D_val]
   simp only
   rw [if_neg (by omega), if_neg (fun q => q2 q.1), if_neg q2]
   congr 1
   omega
theorem isN_len (n : Int) : (((Lib.itoa n).length : Int) - (if n < 0 then 1 else 0) ≤ 9) ↔ -999999999 ≤ n ∧ n ≤ 999999999 := by
 by_cases hn : n < 0
 ·rw [itoa_neg hn, if_pos hn, List.length_cons]
  have := D_len9 n.natAbs
  omega
 ·rw [itoa_pos hn, if_neg hn]
  have := D_len9 n.toNat
  omega
theorem itoa_bound {n : Int} (h0 : -9223372036854775808 ≤ n) (h1 : n ≤ 9223372036854775807) : (Lib.itoa n).length ≤ 21 := by
 by_cases hn : n < 0
 ·rw [itoa_neg hn, List.length_cons]
  have := D_len20 n.natAbs (by omega)
  omega
 ·rw [itoa_pos hn]
  have := D_len20 n.toNat (by omega)
  omega
end Go.GV.YtkkfgajlnpcpcaaGreatDoor
namespace Go.GV.YtkkfgajlnpcpcaaGreatDoor
open Go.Proofs
theorem szS (l : List UInt8) : (mkS l).size = l.length := by rw [size_B, B_mk]
theorem mkS_inj {a b : List UInt8} (h : mkS a = mkS b) : a = b := by have := congrArg B h; simpa [B_mk] using this
theorem strOf1 {d : Nat} (h : d < 10) : strOf [IntKind.u8.wrap ((48 : Int) + (d : Int))] = mkS [UInt8.ofNat (48 + d)] := by
 refine B_inj ?_
 rw [B_strOf, B_mk, Go.IntWalk.u8_in _ ⟨by omega, by omega⟩]
 simp only [List.map_cons, List.map_nil]
 rw [show ((48 : Int) + (d : Int)).toNat = 48 + d by omega]
theorem td10 {n : Int} (h : 0 ≤ n) : Int.tdiv n 10 = n / 10 := Int.tdiv_eq_ediv_of_nonneg h
theorem tm10 {n : Int} (h : 0 ≤ n) : Int.tmod n 10 = n % 10 := Int.tmod_eq_emod_of_nonneg h
theorem td10n {n : Int} (h : n ≤ 0) : Int.tdiv n 10 = -((-n) / 10) := by
 have : Int.tdiv n 10 = -Int.tdiv (-n) 10 := by rw [Int.neg_tdiv, Int.neg_neg]
 rw [this, td10 (by omega)]
theorem tm10n {n : Int} (h : n ≤ 0) : Int.tmod n 10 = -((-n) % 10) := by
 have : Int.tmod n 10 = -Int.tmod (-n) 10 := by rw [Int.neg_tmod, Int.neg_neg]
 rw [this, tm10 (by omega)]
theorem dec_pos : ∀ (u : Nat), (u : Int) ≤ 9223372036854775807 → vokref_Dec.f (u : Int) = some (mkS (Lib.decDigits u), ()) := by
 intro u
 induction u using Nat.strongRecOn with
 | ind u ih =>
  intro hu
  rw [vokref_Dec.f_eq, Lib.decDigits]
  by_cases h : u < 10
  ·rw [dif_pos h]
   simp (disch := omega) only [ss, cond_true, cond_false, Option.bind_some]
   rw [strOf1 h]
  ·rw [dif_neg h]
   have e1 : Int.tdiv (u : Int) 10 = ((u / 10 : Nat) : Int) := by rw [td10 (by omega)]; omega
   have e2 : Int.tmod (u : Int) 10 = ((u % 10 : Nat) : Int) := by rw [tm10 (by omega)]; omega
   have h1 := ih (u / 10) (by omega) (by omega)
   have h2 := D_len20 (u / 10) (by omega)
   simp (disch := omega) only [ss, cond_true, cond_false, Option.bind_some, e1, e2, h1, szS, strOf1 (show u % 10 < 10 by omega), List.length_singleton]
   rw [mk_app]
theorem dec_spec (n : Int) (h0 : -9223372036854775808 ≤ n) (h1 : n ≤ 9223372036854775807) : vokref_Dec.f n = some (mkS (Lib.itoa n), ()) := by
 by_cases hn : n < 0
 ·rw [itoa_neg hn, Lib.decDigits, vokref_Dec.f_eq]
  have e1 : Int.tdiv n 10 = -((n.natAbs / 10 : Nat) : Int) := by rw [td10n (by omega)]; omega
  have e2 : Int.tmod n 10 = -((n.natAbs % 10 : Nat) : Int) := by rw [tm10n (by omega)]; omega
  have e3 : (48 : Int) - -((n.natAbs % 10 : Nat) : Int) = 48 + ((n.natAbs % 10 : Nat) : Int) := by omega
  have hm : (⟨#[45]⟩ : ByteArray) = mkS [45] := rfl
  by_cases h : n.natAbs < 10
  ·have e4 : n.natAbs / 10 = 0 := by omega
   rw [dif_pos h]
   simp (disch := omega) only [ss, cond_true, cond_false, Option.bind_some, e1, e2, e3, hm, szS, strOf1 (show n.natAbs % 10 < 10 by omega), List.length_singleton]
   rw [mk_app, Nat.mod_eq_of_lt h]
   rfl
  ·have e5 : IntKind.i64.wrap (0 - IntKind.i64.wrap (-((n.natAbs / 10 : Nat) : Int))) = ((n.natAbs / 10 : Nat) : Int) := by simp (disch := omega) only [ss, cond_true, cond_false, Option.bind_some]; omega
   have h1 := dec_pos (n.natAbs / 10) (by omega)
   have h2 := D_len20 (n.natAbs / 10) (by omega)
   have e6 : ¬ (-((n.natAbs / 10 : Nat) : Int)) = 0 := by omega
   rw [dif_neg h]
   rw [e1, e2, e5, h1]
   simp (disch := omega) only [ss, cond_true, cond_false, Option.bind_some, e3, hm, szS, strOf1 (show n.natAbs % 10 < 10 by omega), List.length_singleton, mk_app, List.length_append]
   rfl
 ·obtain ⟨u, rfl⟩ := Int.eq_ofNat_of_zero_le (show 0 ≤ n by omega)
  rw [dec_pos u h1, itoa_pos hn]
  rfl
theorem itoa_sem (n : Int) (h0 : -9223372036854775808 ≤ n) (h1 : n ≤ 9223372036854775807) : strconv_Itoa.f n = some (mkS (Lib.itoa n), ()) := by
 rw [strconv_Itoa.f_sem]
 show itoaS n = _
 unfold itoaS
 rw [dp h0, dp h1, cond_true, cond_true, itoaL_eq h0 h1]
 rfl
theorem atoi_sem (s : List UInt8) (hs : s.length ≤ 1000000) : strconv_Atoi.f (mkS s) = some ((atoiR (mkS s)).1, (atoiR (mkS s)).2, ()) := by
 rw [strconv_Atoi.f_sem]
 show atoiS (mkS s) = _
 unfold atoiS
 rw [dp (by rw [szS]; omega), cond_true]
theorem atoi_rng (s : ByteArray) : -9223372036854775808 ≤ (atoiR s).1 ∧ (atoiR s).1 ≤ 9223372036854775807 := by
 unfold atoiR
 cases h : Lib.atoiAll s.data.toList with
 | ok v => exact Lib.atoiAll_bounds h
 | range => exact Lib.atoiSat_bounds _
 | _ => exact ⟨by show (-9223372036854775808 : Int) ≤ 0; omega, by show (0 : Int) ≤ 9223372036854775807; omega⟩
theorem trim_minus (s : List UInt8) (hs : s.length ≤ 1000000) : strings_TrimPrefix.f (mkS s) ⟨#[45]⟩ = some (mkS (if s.head? = some 45 then s.tail else s), ()) := by
 have hp : stringslite_HasPrefix.f (mkS s) ⟨#[45]⟩ = some (decide (s.head? = some 45), ()) := slHasPrefix_one s 45
 rw [strings_TrimPrefix.f_eq, stringslite_TrimPrefix.f_eq, hp]
 have hz : (⟨#[45]⟩ : ByteArray).size = 1 := rfl
 by_cases h : s.head? = some 45
 ·have h1 : 0 < s.length := by cases s with
   | nil => simp at h
   | cons _ _ => simp
  simp (disch := omega) only [ss, cond_true, cond_false, Option.bind_some, hz, szS, if_pos h, Int.natCast_one]
  rw [show (mkS s).extract 1 s.length = mkS s.tail from B_inj (by rw [← szS s, B_exte, B_mk, B_mk, List.drop_one])]
 ·simp (disch := omega) only [ss, cond_true, cond_false, Option.bind_some, if_neg h]
theorem number_spec (s : List UInt8) (hs : s.length ≤ 1000000) :
  (∃ n, isN s n ∧ rule_number.f (mkS s) = some (n, true, ())) ∨ ((∀ n, ¬ isN s n) ∧ ∃ n, rule_number.f (mkS s) = some (n, false, ())) := by
 have hr := atoi_rng (mkS s)
 have hA := atoi_sem s hs
 rw [rule_number.f_eq, hA]
 simp only [Option.bind_some]
 have small : ∀ n, isN s n → atoiR (mkS s) = (n, true) := by
  rintro n ⟨rfl, h0, h1⟩
  unfold atoiR
  rw [show (mkS (Lib.itoa n)).data.toList = Lib.itoa n from rfl, atoi_small h0 h1]
 generalize hp : atoiR (mkS s) = p at hr small
 obtain ⟨n, b⟩ := p
 simp only at hr small ⊢
 cases b with
 | false => exact .inr ⟨fun m hm => (by have := small m hm; cases this), n, rfl⟩
 | true =>
  have hI := itoa_sem n hr.1 hr.2
  have hT := trim_minus s hs
  rw [cond_true, hI]
  simp only [Option.bind_some, beq_S]
  by_cases he : mkS (Lib.itoa n) = mkS s
  ·have he' := mkS_inj he
   rw [dp he, cond_true, hT]
   simp only [Option.bind_some, szS]
   have hl : ((if s.head? = some 45 then s.tail else s).length : Int) = (Lib.itoa n).length - (if n < 0 then 1 else 0) := by
    rw [← he']
    by_cases hn : n < 0
    ·rw [itoa_neg hn, if_pos hn, if_pos (show (45 :: Lib.decDigits n.natAbs).head? = some 45 from rfl)]
     simp
    ·rw [itoa_pos hn, if_neg hn, if_neg]
     ·simp
     ·intro q
      cases hD : Lib.decDigits n.toNat with
      | nil => exact D_ne _ hD
      | cons c r =>
       rw [hD] at q
       simp at q
       have := (D_head hD).2
       rw [q] at this
       exact this rfl
   rw [hl]
   by_cases h9 : -999999999 ≤ n ∧ n ≤ 999999999
   ·rw [dp ((isN_len n).2 h9)]
    exact .inl ⟨n, ⟨he'.symm, h9⟩, rfl⟩
   ·rw [dn fun q => h9 ((isN_len n).1 q)]
    refine .inr ⟨fun m hm => ?_, n, rfl⟩
    have := small m hm
    simp only [Prod.mk.injEq, and_true] at this
    subst this
    exact h9 hm.2
  ·rw [dn he, cond_false]
   refine .inr ⟨fun m hm => ?_, n, rfl⟩
   have := small m hm
   simp only [Prod.mk.injEq, and_true] at this
   subst this
   exact he (by rw [hm.1])
theorem num_l6 (s : List UInt8) (m : Int) (h0 : -9223372036854775808 ≤ m) (h1 : m ≤ 9223372036854775807) : vokref_Num.l6 (mkS s) m = some (m, decide (s = Lib.itoa m), ()) := by
 rw [vokref_Num.l6_eq, dec_spec m h0 h1]
 simp only [Option.bind_some, beq_S]
 rw [show decide (mkS (Lib.itoa m) = mkS s) = decide (s = Lib.itoa m) from decide_eq_decide.2 ⟨fun h => (mkS_inj h).symm, fun h => by rw [← h]⟩]
def numOK (s : List UInt8) (r : Option (Int × Bool × Unit)) : Prop := ∃ m b, r = some (m, b, ()) ∧ -9223372036854775808 ≤ m ∧ m ≤ 9223372036854775807 ∧ (b = true → s = Lib.itoa m)
theorem num_l4 (s : List UInt8) (neg : Bool) (d : List UInt8) (hd : d.length ≤ 19) : ∀ (k i v : Nat), d.length - i = k → i ≤ d.length → v ≤ 9223372036854775808 →
  numOK s (vokref_Num.l4 (mkS s) neg (mkS d) (-(v : Int)) i) ∧
  ((∀ c ∈ d.drop i, dig c) → dval v (d.drop i) ≤ 999999999 → vokref_Num.l4 (mkS s) neg (mkS d) (-(v : Int)) i = vokref_Num.l6 (mkS s) (if neg = true then -(dval v (d.drop i) : Int) else dval v (d.drop i))) := by
 have fail : ∀ m : Int, m = 0 → numOK s (some (m, false, ())) := fun m hm => ⟨m, false, rfl, by omega, by omega, by simp⟩
 have good : ∀ m : Int, -9223372036854775808 ≤ m → m ≤ 9223372036854775807 → numOK s (vokref_Num.l6 (mkS s) m) := fun m h0 h1 => ⟨m, _, num_l6 s m h0 h1, h0, h1, fun h => of_decide_eq_true h⟩
 intro k
 induction k with
 | zero =>
  intro i v hk hi hv
  have e : i = d.length := by omega
  subst e
  rw [vokref_Num.l4_eq, List.drop_length]
  simp (disch := omega) only [ss, cond_true, cond_false, Option.bind_some, szS]
  cases neg with
  | true =>
   simp (disch := omega) only [ss, cond_true, cond_false, Option.bind_some]
   exact ⟨good _ (by omega) (by omega), fun _ _ => rfl⟩
  | false =>
   simp (disch := omega) only [ss, cond_true, cond_false, Option.bind_some]
   by_cases hm : (-(v : Int)) = -9223372036854775808
   ·simp (disch := omega) only [ss, cond_true, cond_false, Option.bind_some]
    refine ⟨fail 0 rfl, fun _ hq => absurd hm ?_⟩
    have hq : v ≤ 999999999 := hq
    clear hm hv good fail
    omega
   ·simp (disch := omega) only [ss, cond_true, cond_false, Option.bind_some]
    have e2 : (0 : Int) - -(v : Int) = v := by omega
    rw [e2]
    exact ⟨good _ (by omega) (by omega), fun _ _ => rfl⟩
 | succ k ih =>
  intro i v hk hi hv
  have hlt : i < d.length := by omega
  have hbt : bt (mkS d) (i : Int) = ((d.getD i 0).toNat : Int) := bt_nat (mkS d) i
  have hc := u8_bd (d.getD i 0)
  rw [vokref_Num.l4_eq, drop_getD' 0 hlt]
  simp (disch := omega) only [ss, cond_true, cond_false, Option.bind_some, szS, hbt]
  by_cases c1 : ((d.getD i 0).toNat : Int) - 48 < 0
  ·simp (disch := omega) only [ss, cond_true, cond_false, Option.bind_some, vokref_Num.l5_eq]
   refine ⟨fail 0 rfl, fun hq => ?_⟩
   have := hq _ List.mem_cons_self
   unfold dig at this
   omega
  ·by_cases c2 : ((d.getD i 0).toNat : Int) - 48 > 9
   ·simp (disch := omega) only [ss, cond_true, cond_false, Option.bind_some, vokref_Num.l5_eq]
    refine ⟨fail 0 rfl, fun hq => ?_⟩
    have := hq _ List.mem_cons_self
    unfold dig at this
    omega
   ·have e1 : Int.tdiv (-9223372036854775808 + (((d.getD i 0).toNat : Int) - 48)) 10 = -((9223372036854775808 - (((d.getD i 0).toNat : Int) - 48)) / 10) := by
     rw [td10n (by omega)]
     congr 2
     omega
    simp (disch := omega) only [ss, cond_true, cond_false, Option.bind_some, e1]
    by_cases c3 : -(v : Int) < -((9223372036854775808 - (((d.getD i 0).toNat : Int) - 48)) / 10)
    ·simp (disch := omega) only [ss, cond_true, cond_false, Option.bind_some, vokref_Num.l5_eq]
     refine ⟨fail 0 rfl, fun hq hv2 => ?_⟩
     have h1 := dval_ge (d.drop (i + 1)) (10 * v + ((d.getD i 0).toNat - 48))
     have hv2 : dval (10 * v + ((d.getD i 0).toNat - 48)) (d.drop (i + 1)) ≤ 999999999 := hv2
     omega
    ·have e2 : (10 : Int) * -(v : Int) - (((d.getD i 0).toNat : Int) - 48) = -((10 * v + ((d.getD i 0).toNat - 48) : Nat) : Int) := by omega
     simp (disch := omega) only [ss, cond_true, cond_false, Option.bind_some, vokref_Num.l5_eq]
     rw [e2]
     obtain ⟨h1, h2⟩ := ih (i + 1) (10 * v + ((d.getD i 0).toNat - 48)) (by omega) (by omega) (by omega)
     exact ⟨h1, fun hq hv2 => h2 (fun c hc => hq c (List.mem_cons_of_mem _ hc)) hv2⟩
theorem num_l2 (s : List UInt8) (neg : Bool) (d : List UInt8) : numOK s (vokref_Num.l2 (mkS s) neg (mkS d)) ∧
  ((∀ c ∈ d, dig c) → 0 < d.length → d.length ≤ 19 → dval 0 d ≤ 999999999 → vokref_Num.l2 (mkS s) neg (mkS d) = vokref_Num.l6 (mkS s) (if neg = true then -(dval 0 d : Int) else dval 0 d)) := by
 have fail : numOK s (some (0, false, ())) := ⟨0, false, rfl, by omega, by omega, by simp⟩
 rw [vokref_Num.l2_eq]
 by_cases c1 : (d.length : Int) < 1
 ·simp (disch := omega) only [ss, cond_true, cond_false, Option.bind_some, szS, vokref_Num.l3_eq]
  exact ⟨fail, fun _ h => by omega⟩
 ·by_cases c2 : (d.length : Int) > 19
  ·simp (disch := omega) only [ss, cond_true, cond_false, Option.bind_some, szS, vokref_Num.l3_eq]
   exact ⟨fail, fun _ _ h => by omega⟩
  ·simp (disch := omega) only [ss, cond_true, cond_false, Option.bind_some, szS, vokref_Num.l3_eq]
   obtain ⟨h1, h2⟩ := num_l4 s neg d (by omega) _ 0 0 rfl (Nat.zero_le _) (by omega)
   rw [Int.natCast_zero, Int.neg_zero] at h1 h2
   rw [List.drop_zero] at h2
   exact ⟨h1, fun q1 _ _ q2 => h2 q1 q2⟩
theorem num_spec (s : List UInt8) : numOK s (vokref_Num.f (mkS s)) ∧ ∀ n, isN s n → vokref_Num.f (mkS s) = some (n, true, ()) := by
 have hbt : bt (mkS s) 0 = ((s.getD 0 0).toNat : Int) := bt_nat (mkS s) 0
 cases s with
 | nil =>
  have h0 := num_l2 [] false []
  rw [vokref_Num.f_eq]
  simp (disch := omega) only [ss, cond_true, cond_false, Option.bind_some, szS, List.length_nil, Int.natCast_zero, vokref_Num.l1_eq]
  refine ⟨h0.1, fun n hn => ?_⟩
  obtain ⟨h1, _⟩ := hn
  unfold Lib.itoa at h1
  split at h1
  ·cases h1
  ·exact absurd h1.symm (D_ne _)
 | cons c r =>
  have hg : (c :: r).getD 0 0 = c := rfl
  rw [hg] at hbt
  rw [vokref_Num.f_eq]
  by_cases hc : (c.toNat : Int) = 45
  ·have e1 : (mkS (c :: r)).extract 1 (r.length + 1) = mkS r := B_inj (by rw [show r.length + 1 = (mkS (c :: r)).size by rw [szS]; rfl, B_exte, B_mk, B_mk]; rfl)
   have h0 := num_l2 (c :: r) true r
   have h45 : c = 45 := (u8_eq c 45 (by decide)).1 (show (c.toNat : Int) = ((45 : Nat) : Int) from hc)
   simp (disch := omega) only [ss, cond_true, cond_false, Option.bind_some, szS, List.length_cons, hbt, vokref_Num.l1_eq, e1]
   refine ⟨h0.1, fun n hn => ?_⟩
   obtain ⟨h1, h2, h3⟩ := hn
   by_cases hneg : n < 0
   ·rw [itoa_neg hneg] at h1
    have hr := (List.cons.inj h1).2
    have h9 := (D_len9 n.natAbs).2 (by omega)
    rw [h0.2 (by rw [hr]; exact D_dig _) (by rw [hr]; exact D_pos _) (by rw [hr]; omega) (by rw [hr, D_val]; omega), if_pos rfl, hr, D_val, num_l6 _ _ (by omega) (by omega)]
    have e2 : -((n.natAbs : Nat) : Int) = n := by omega
    rw [e2, dp (by rw [itoa_neg hneg, h45])]
   ·rw [itoa_pos hneg] at h1
    exact absurd (by rw [h45]; rfl) (D_head h1.symm).2
  ·have h0 := num_l2 (c :: r) false (c :: r)
   simp (disch := omega) only [ss, cond_true, cond_false, Option.bind_some, szS, List.length_cons, hbt, vokref_Num.l1_eq]
   refine ⟨h0.1, fun n hn => ?_⟩
   obtain ⟨h1, h2, h3⟩ := hn
   by_cases hneg : n < 0
   ·rw [itoa_neg hneg] at h1
    have := (List.cons.inj h1).1
    subst this
    exact absurd rfl hc
   ·rw [itoa_pos hneg] at h1
    have h9 := (D_len9 n.toNat).2 (by omega)
    rw [h0.2 (by rw [h1]; exact D_dig _) (by rw [h1]; exact D_pos _) (by rw [h1]; omega) (by rw [h1, D_val]; omega), if_neg (by simp), num_l6 _ _ (by omega) (by rw [h1, D_val]; omega)]
    have e2 : ((dval 0 (c :: r) : Nat) : Int) = n := by rw [h1, D_val]; omega
    rw [e2, dp (by rw [itoa_pos hneg, h1])]
theorem vnumber_spec (s : List UInt8) (hs : s.length ≤ 1000000) :
  (∃ n, isN s n ∧ vokref4_number.f (mkS s) = some (n, true, ())) ∨ ((∀ n, ¬ isN s n) ∧ ∃ n, vokref4_number.f (mkS s) = some (n, false, ())) := by
 obtain ⟨⟨m, b, h1, h2, h3, h4⟩, h5⟩ := num_spec s
 by_cases hn : ∃ n, isN s n
 ·obtain ⟨n, hn⟩ := hn
  have h6 := h5 n hn
  have h7 := (isN_len n).2 hn.2
  rw [← hn.1] at h7
  refine .inl ⟨n, hn, ?_⟩
  rw [vokref4_number.f_eq, h6]
  by_cases c1 : n < 0
  ·rw [if_pos c1] at h7
   simp (disch := omega) only [ss, cond_true, cond_false, Option.bind_some, szS]
  ·rw [if_neg c1] at h7
   simp (disch := omega) only [ss, cond_true, cond_false, Option.bind_some, szS]
 ·refine .inr ⟨fun n h => hn ⟨n, h⟩, m, ?_⟩
  rw [vokref4_number.f_eq, h1]
  cases b with
  | false =>
   by_cases c1 : m < 0
   ·simp (disch := omega) only [ss, cond_true, cond_false, Option.bind_some]
   ·simp (disch := omega) only [ss, cond_true, cond_false, Option.bind_some]
  | true =>
   have he := h4 rfl
   have h7 : ¬ ((s.length : Int) - (if m < 0 then 1 else 0) ≤ 9) := fun q => hn ⟨m, he, (isN_len m).1 (by rw [← he]; exact q)⟩
   by_cases c1 : m < 0
   ·rw [if_pos c1] at h7
    simp (disch := omega) only [ss, cond_true, cond_false, Option.bind_some, szS]
   ·rw [if_neg c1] at h7
    simp (disch := omega) only [ss, cond_true, cond_false, Option.bind_some, szS]
end Go.GV.YtkkfgajlnpcpcaaGreatDoor
namespace Go.GV.YtkkfgajlnpcpcaaGreatDoor
open Go.Proofs
abbrev rises (l : List Int) : Prop := l.Pairwise (· < ·)
theorem rises_uniq : ∀ {a b : List Int}, rises a → rises b → (∀ x, x ∈ a ↔ x ∈ b) → a = b
 | [], [], _, _, _ => rfl
 | [], y :: b, _, _, h => by have := (h y).2 List.mem_cons_self; cases this
 | x :: a, [], _, _, h => by have := (h x).1 List.mem_cons_self; cases this
 | x :: a, y :: b, ha, hb, h => by
  have ha := List.pairwise_cons.1 ha
  have hb := List.pairwise_cons.1 hb
  have e : x = y := by
   have h1 := (h x).1 List.mem_cons_self
   have h2 := (h y).2 List.mem_cons_self
   rcases List.mem_cons.1 h1 with h1 | h1
   ·exact h1
   ·rcases List.mem_cons.1 h2 with h2 | h2
    ·exact h2.symm
    ·have := hb.1 x h1; have := ha.1 y h2; omega
  subst e
  rw [rises_uniq ha.2 hb.2 fun z => ?_]
  have h3 := h z
  simp only [List.mem_cons] at h3
  constructor
  ·intro hz
   rcases h3.1 (.inr hz) with h4 | h4
   ·have := ha.1 z hz; omega
   ·exact h4
  ·intro hz
   rcases h3.2 (.inr hz) with h4 | h4
   ·have := hb.1 z hz; omega
   ·exact h4
theorem ints_same (a : List Int) (ha : a.length ≤ 1000000) : vokref_Ints.f a a = some (true, ()) := by
 have key : ∀ (k i : Nat), a.length - i = k → i ≤ a.length → vokref_Ints.l1 a a i = some (true, ()) := by
  intro k
  induction k with
  | zero =>
   intro i hk hi
   rw [vokref_Ints.l1_eq]
   simp (disch := omega) only [ss, cond_true, cond_false, Option.bind_some]
  | succ k ih =>
   intro i hk hi
   rw [vokref_Ints.l1_eq]
   simp (disch := omega) only [ss, cond_true, cond_false, Option.bind_some]
   exact ih (i + 1) (by omega) (by omega)
 rw [vokref_Ints.f_eq]
 have := key _ 0 rfl (Nat.zero_le _)
 rw [show ((0 : Nat) : Int) = 0 from rfl] at this
 simp (disch := omega) only [ss, cond_true, cond_false, Option.bind_some, this]
theorem sorted_l2 (l : List Int) (i : Nat) (hi : i < l.length) (hl : l.length ≤ 1000000) (y : List Int) (hy : y.length ≤ 1000000) : ∀ (k q : Nat), y.length - q = k → q ≤ y.length → (∀ j, j < q → y.getD j 0 < l.getD i 0) →
  ∃ q' : Nat, q' ≤ y.length ∧ vokref_Sorted.l2 l i q y = vokref_Sorted.l4 l i q' y ∧ (∀ j, j < q' → y.getD j 0 < l.getD i 0) ∧ (q' < y.length → l.getD i 0 ≤ y.getD q' 0) := by
 intro k
 induction k with
 | zero =>
  intro q hk hq h
  refine ⟨q, hq, ?_, h, fun h => by omega⟩
  rw [vokref_Sorted.l2_eq]
  simp (disch := omega) only [ss, cond_true, cond_false, Option.bind_some, vokref_Sorted.l3_eq]
 | succ k ih =>
  intro q hk hq h
  rw [vokref_Sorted.l2_eq]
  by_cases hc : y.getD q 0 < l.getD i 0
  ·simp (disch := omega) only [ss, cond_true, cond_false, Option.bind_some, vokref_Sorted.l3_eq]
   refine ih (q + 1) (by omega) (by omega) fun j hj => ?_
   by_cases e : j = q
   ·subst e; exact hc
   ·exact h j (by omega)
  ·simp (disch := omega) only [ss, cond_true, cond_false, Option.bind_some, vokref_Sorted.l3_eq]
   exact ⟨q, hq, rfl, h, fun _ => by omega⟩
theorem sorted_l1 (l : List Int) (hl : l.length ≤ 1000000) : ∀ (k i : Nat) (y : List Int), l.length - i = k → i ≤ l.length → y.length ≤ i → rises y →
  ∃ r, vokref_Sorted.l1 l i y = some (r, ()) ∧ rises r ∧ ∀ x, x ∈ r ↔ x ∈ y ∨ x ∈ l.drop i := by
 have hlim : limit = 17179869184 := rfl
 intro k
 induction k with
 | zero =>
  intro i y hk hi hy hr
  have e : i = l.length := by omega
  subst e
  rw [vokref_Sorted.l1_eq]
  simp (disch := omega) only [ss, cond_true, cond_false, Option.bind_some]
  exact ⟨y, rfl, hr, fun x => by simp⟩
 | succ k ih =>
  intro i y hk hi hy hr
  have hlt : i < l.length := by omega
  obtain ⟨q, h1, h2, h3, h4⟩ := sorted_l2 l i hlt hl y (by omega) _ 0 rfl (Nat.zero_le _) fun j hj => by omega
  rw [vokref_Sorted.l1_eq]
  rw [Int.natCast_zero] at h2
  simp (disch := omega) only [ss, cond_true, cond_false, Option.bind_some, h2]
  rw [drop_getD' 0 hlt, vokref_Sorted.l4_eq]
  have ins : (q < y.length → l.getD i 0 < y.getD q 0) → ∃ r, vokref_Sorted.l6 l i q y = some (r, ()) ∧ rises r ∧ ∀ x, x ∈ r ↔ x ∈ y ∨ x ∈ l.getD i 0 :: l.drop (i + 1) := by
   intro h5
   have hp := ins_perm y (l.getD i 0) q
   have hs : rises (y.take q ++ ([l.getD i 0] ++ y.drop q)) := by
    refine ins_sorted hr (fun a ha => ?_) fun a ha => ?_
    ·obtain ⟨j, hj, e⟩ := List.getElem_of_mem ha
     rw [List.length_take] at hj
     rw [List.getElem_take] at e
     have := h3 j (by omega)
     rw [getD_eq 0 (by omega), e] at this
     exact this
    ·obtain ⟨j, hj, e⟩ := List.getElem_of_mem ha
     rw [List.length_drop] at hj
     rw [List.getElem_drop] at e
     have a1 := h5 (by omega)
     rw [getD_eq 0 (show q < y.length by omega)] at a1
     by_cases hj0 : j = 0
     ·subst hj0
      simp only [Nat.add_zero] at e
      rw [← e]; exact a1
     ·have := List.pairwise_iff_getElem.1 hr q (q + j) (by omega) (by omega) (by omega)
      rw [e] at this
      omega
   obtain ⟨r, b1, b2, b3⟩ := ih (i + 1) _ (by omega) (by omega) (by rw [hp.length_eq]; simp; omega) hs
   refine ⟨r, ?_, b2, fun x => ?_⟩
   ·rw [vokref_Sorted.l6_eq]
    simp (disch := omega) only [ss, cond_true, cond_false, Option.bind_some, List.length_singleton, List.length_append, List.length_take, List.length_drop, hlim]
    exact b1
   ·rw [b3, hp.mem_iff, List.mem_cons, List.mem_cons]
    constructor
    ·rintro ((h | h) | h)
     ·exact .inr (.inl h)
     ·exact .inl h
     ·exact .inr (.inr h)
    ·rintro (h | h | h)
     ·exact .inl (.inr h)
     ·exact .inl (.inl h)
     ·exact .inr h
  by_cases hq : q < y.length
  ·by_cases he : y.getD q 0 = l.getD i 0
   ·simp (disch := omega) only [ss, cond_true, cond_false, Option.bind_some, vokref_Sorted.l5_eq]
    obtain ⟨r, b1, b2, b3⟩ := ih (i + 1) y (by omega) (by omega) (by omega) hr
    refine ⟨r, b1, b2, fun x => ?_⟩
    have hm : l.getD i 0 ∈ y := by rw [← he]; exact getD_mem' 0 hq
    rw [b3, List.mem_cons]
    constructor
    ·rintro (h | h)
     ·exact .inl h
     ·exact .inr (.inr h)
    ·rintro (h | h | h)
     ·exact .inl h
     ·exact .inl (h ▸ hm)
     ·exact .inr h
   ·simp (disch := omega) only [ss, cond_true, cond_false, Option.bind_some, vokref_Sorted.l5_eq]
    exact ins fun h => by have := h4 h; omega
  ·simp (disch := omega) only [ss, cond_true, cond_false, Option.bind_some, vokref_Sorted.l5_eq]
   exact ins fun h => by omega
theorem Sorted_spec (l : List Int) (hl : l.length ≤ 1000000) : ∃ r, vokref_Sorted.f l = some (r, ()) ∧ rises r ∧ ∀ x, x ∈ r ↔ x ∈ l := by
 obtain ⟨r, h1, h2, h3⟩ := sorted_l1 l hl _ 0 [] rfl (Nat.zero_le _) (Nat.le_refl _) List.Pairwise.nil
 refine ⟨r, ?_, h2, fun x => by rw [h3]; simp⟩
 rw [vokref_Sorted.f_eq]
 exact h1
end Go.GV.YtkkfgajlnpcpcaaGreatDoor
namespace Go.GV.YtkkfgajlnpcpcaaGreatDoor
open Go.Proofs
def dd : Int → List Int → List Int
 | _, [] => []
 | p, a :: l => if a = p then dd a l else a :: dd a l
theorem dd_mem : ∀ (l : List Int) (p x : Int), x ∈ dd p l ∨ x = p ↔ x ∈ l ∨ x = p
 | [], p, x => by simp [dd]
 | a :: l, p, x => by
  unfold dd
  have ih := dd_mem l a x
  by_cases h : a = p
  ·subst h
   rw [if_pos rfl, ih, List.mem_cons]
   constructor
   ·rintro (h | h)
    ·exact .inl (.inr h)
    ·exact .inr h
   ·rintro ((h | h) | h)
    ·exact .inr h
    ·exact .inl h
    ·exact .inr h
  ·rw [if_neg h, List.mem_cons, List.mem_cons]
   constructor
   ·rintro ((h1 | h1) | h1)
    ·exact .inl (.inl h1)
    ·rcases ih.1 (.inl h1) with h2 | h2
     ·exact .inl (.inr h2)
     ·exact .inl (.inl h2)
    ·exact .inr h1
   ·rintro ((h1 | h1) | h1)
    ·exact .inl (.inl h1)
    ·rcases ih.2 (.inl h1) with h2 | h2
     ·exact .inl (.inr h2)
     ·exact .inl (.inl h2)
    ·exact .inr h1
theorem dd_rises : ∀ (l : List Int) (p : Int), (p :: l).Pairwise (· ≤ ·) → rises (p :: dd p l)
 | [], p, _ => List.pairwise_singleton _ _
 | a :: l, p, h => by
  unfold dd
  rw [List.pairwise_cons] at h
  have ih := dd_rises l a h.2
  by_cases he : a = p
  ·subst he; rw [if_pos rfl]; exact ih
  ·rw [if_neg he]
   have hlt : p < a := by have := h.1 a List.mem_cons_self; omega
   refine List.pairwise_cons.2 ⟨fun b hb => ?_, ih⟩
   rcases List.mem_cons.1 hb with rfl | hb
   ·exact hlt
   ·have := (List.pairwise_cons.1 ih).1 b hb; omega
def dds : List Int → List Int
 | [] => []
 | a :: l => a :: dd a l
theorem comp_l3 (N : Nat) (hN : N ≤ 1000000) (b : Nat) : ∀ (k i q : Nat) (y : List Int), y.length = N → N - (b + q) = k → 1 ≤ q → i < b + q → b + q ≤ N →
  slices_Compact_int_int.l3 i b q y = some (y.take i ++ dd (y.getD (b + q - 1) 0) (y.drop (b + q)), ()) := by
 intro k
 induction k with
 | zero =>
  intro i q y hy hk hq hi hb
  have e : b + q = y.length := by omega
  have e2 : (y.take i ++ List.replicate (y.length - i) 0).take i = y.take i := by
   rw [List.take_append_of_le_length (by rw [List.length_take]; omega), List.take_take, Nat.min_self]
  rw [slices_Compact_int_int.l3_eq, e, List.drop_length]
  simp (disch := omega) only [ss, cond_true, cond_false, Option.bind_some, List.length_append, List.length_take, List.length_replicate, e2, slices_Compact_int_int.l4_eq, dd, List.append_nil]
 | succ k ih =>
  intro i q y hy hk hq hi hb
  have hlt : b + q < y.length := by omega
  have w1 : IntKind.i64.wrap ((q : Int) - 1) = ((q - 1 : Nat) : Int) := wr_sub1 (by omega) (by omega)
  have w2 : ((b : Int) + ((q - 1 : Nat) : Int)).toNat = b + q - 1 := by omega
  have e1 : ((q : Int) < ((y.length - b : Nat) : Int)) := by omega
  rw [slices_Compact_int_int.l3_eq, drop_getD' 0 hlt]
  simp (disch := omega) only [ss, cond_true, cond_false, Option.bind_some, w1, w2, e1, List.length_drop, dd]
  by_cases hc : y.getD (b + q) 0 = y.getD (b + q - 1) 0
  ·simp (disch := omega) only [ss, cond_true, cond_false, Option.bind_some, if_pos hc]
   have := ih i (q + 1) y hy (by omega) (by omega) (by omega) (by omega)
   rw [show b + (q + 1) - 1 = b + q by omega, show b + (q + 1) = b + q + 1 by omega] at this
   exact this
  ·simp (disch := omega) only [ss, cond_true, cond_false, Option.bind_some, if_neg hc]
   have := ih (i + 1) (q + 1) (y.set i (y.getD (b + q) 0)) (by simp [hy]) (by omega) (by omega) (by omega) (by omega)
   refine this.trans ?_
   have g1 : (y.set i (y.getD (b + q) 0)).getD (b + (q + 1) - 1) 0 = y.getD (b + q) 0 := by
    rw [show b + (q + 1) - 1 = b + q by omega, List.getD_eq_getElem?_getD, List.getD_eq_getElem?_getD, List.getElem?_set]
    by_cases h : i = b + q
    ·omega
    ·rw [if_neg h]
   have g2 : (y.set i (y.getD (b + q) 0)).getD i 0 = y.getD (b + q) 0 := by rw [getD_eq 0 (show i < (y.set i (y.getD (b + q) 0)).length by simp; omega)]; simp
   rw [g1, take_getD' 0 (show i < (y.set i (y.getD (b + q) 0)).length by simp; omega), List.drop_set_of_lt (by omega), List.take_set_of_le (Nat.le_refl i), g2, show b + (q + 1) = b + q + 1 by omega]
   simp
theorem comp_l2 (y : List Int) (hN : y.length ≤ 1000000) : ∀ (k q : Nat), y.length - q = k → 1 ≤ q → q ≤ y.length →
  slices_Compact_int_int.l2 q y = some (y.take q ++ dd (y.getD (q - 1) 0) (y.drop q), ()) := by
 intro k
 induction k with
 | zero =>
  intro q hk hq hq2
  have e : q = y.length := by omega
  subst e
  rw [slices_Compact_int_int.l2_eq]
  simp (disch := omega) only [ss, cond_true, cond_false, Option.bind_some, slices_Compact_int_int.l5_eq, List.drop_length, List.take_length, dd, List.append_nil]
 | succ k ih =>
  intro q hk hq hq2
  have hlt : q < y.length := by omega
  have w1 : IntKind.i64.wrap ((q : Int) - 1) = ((q - 1 : Nat) : Int) := wr_sub1 (by omega) (by omega)
  rw [slices_Compact_int_int.l2_eq, drop_getD' 0 hlt]
  simp (disch := omega) only [ss, cond_true, cond_false, Option.bind_some, w1, dd]
  by_cases hc : y.getD q 0 = y.getD (q - 1) 0
  ·simp (disch := omega) only [ss, cond_true, cond_false, Option.bind_some, if_pos hc]
   have := comp_l3 y.length hN q _ q 1 y rfl rfl (Nat.le_refl _) (by omega) (by omega)
   rw [show q + 1 - 1 = q by omega] at this
   exact this
  ·simp (disch := omega) only [ss, cond_true, cond_false, Option.bind_some, if_neg hc]
   have := ih (q + 1) (by omega) (by omega) (by omega)
   rw [show q + 1 - 1 = q by omega, take_getD' 0 hlt] at this
   refine Eq.trans this ?_
   simp
theorem compact_spec (y : List Int) (hN : y.length ≤ 1000000) : slices_Compact_int_int.f y = some (dds y, ()) := by
 rw [slices_Compact_int_int.f_eq]
 cases y with
 | nil => simp (disch := omega) only [ss, cond_true, cond_false, Option.bind_some, List.length_nil, Int.natCast_zero, slices_Compact_int_int.l1_eq]; rfl
 | cons a l =>
  by_cases h : l = []
  ·subst h
   simp (disch := omega) only [ss, cond_true, cond_false, Option.bind_some, List.length_cons, List.length_nil, slices_Compact_int_int.l1_eq]
   rfl
  ·have h1 : 0 < l.length := List.length_pos_iff.2 h
   have := comp_l2 (a :: l) hN _ 1 rfl (Nat.le_refl _) (by simp)
   simp (disch := omega) only [ss, cond_true, cond_false, Option.bind_some, List.length_cons]
   refine Eq.trans this ?_
   rfl
abbrev Dy := Int × Int × Unit
theorem dy_eq (a b : Dy) : (decide (a.1 = b.1) && decide (a.2.1 = b.2.1)) = decide (a = b) := by
 obtain ⟨a1, a2, ⟨⟩⟩ := a
 obtain ⟨b1, b2, ⟨⟩⟩ := b
 rw [Bool.eq_iff_iff]
 simp
def dyLt (a b : Dy) : Prop := a.1 < b.1 ∨ a.1 = b.1 ∧ a.2.1 < b.2.1
def ddT : Dy → List Dy → List Dy
 | _, [] => []
 | p, a :: l => if a = p then ddT a l else a :: ddT a l
def ddsT : List Dy → List Dy
 | [] => []
 | a :: l => a :: ddT a l
theorem dcomp_l3 (N : Nat) (hN : N ≤ 1000000) (b : Nat) : ∀ (k i q : Nat) (y : List Dy), y.length = N → N - (b + q) = k → 1 ≤ q → i < b + q → b + q ≤ N →
  slices_Compact_api_Day_api_Day.l3 i b q y = some (y.take i ++ ddT (y.getD (b + q - 1) ((0, 0, ()) : Int × Int × Unit)) (y.drop (b + q)), ()) := by
 intro k
 induction k with
 | zero =>
  intro i q y hy hk hq hi hb
  have e : b + q = y.length := by omega
  have e2 : (y.take i ++ List.replicate (y.length - i) ((0, 0, ()) : Int × Int × Unit)).take i = y.take i := by
   rw [List.take_append_of_le_length (by rw [List.length_take]; omega), List.take_take, Nat.min_self]
  rw [slices_Compact_api_Day_api_Day.l3_eq, e, List.drop_length]
  simp (disch := omega) only [ss, cond_true, cond_false, Option.bind_some, List.length_append, List.length_take, List.length_replicate, e2, slices_Compact_api_Day_api_Day.l4_eq, ddT, List.append_nil]
 | succ k ih =>
  intro i q y hy hk hq hi hb
  have hlt : b + q < y.length := by omega
  have w1 : IntKind.i64.wrap ((q : Int) - 1) = ((q - 1 : Nat) : Int) := wr_sub1 (by omega) (by omega)
  have w2 : ((b : Int) + ((q - 1 : Nat) : Int)).toNat = b + q - 1 := by omega
  have e1 : ((q : Int) < ((y.length - b : Nat) : Int)) := by omega
  rw [slices_Compact_api_Day_api_Day.l3_eq, drop_getD' ((0, 0, ()) : Int × Int × Unit) hlt]
  simp (disch := omega) only [ss, cond_true, cond_false, Option.bind_some, w1, w2, e1, List.length_drop, ddT]
  by_cases hc : y.getD (b + q) ((0, 0, ()) : Int × Int × Unit) = y.getD (b + q - 1) ((0, 0, ()) : Int × Int × Unit)
  ·have hc1 := decide_eq_true hc
   simp (disch := omega) only [ss, cond_true, cond_false, Option.bind_some, dy_eq, hc1, if_pos hc]
   have := ih i (q + 1) y hy (by omega) (by omega) (by omega) (by omega)
   rw [show b + (q + 1) - 1 = b + q by omega, show b + (q + 1) = b + q + 1 by omega] at this
   exact this
  ·have hc1 := decide_eq_false hc
   simp (disch := omega) only [ss, cond_true, cond_false, Option.bind_some, dy_eq, hc1, if_neg hc]
   have := ih (i + 1) (q + 1) (y.set i (y.getD (b + q) ((0, 0, ()) : Int × Int × Unit))) (by simp [hy]) (by omega) (by omega) (by omega) (by omega)
   refine this.trans ?_
   have g1 : (y.set i (y.getD (b + q) ((0, 0, ()) : Int × Int × Unit))).getD (b + (q + 1) - 1) ((0, 0, ()) : Int × Int × Unit) = y.getD (b + q) ((0, 0, ()) : Int × Int × Unit) := by
    rw [show b + (q + 1) - 1 = b + q by omega, List.getD_eq_getElem?_getD, List.getD_eq_getElem?_getD, List.getElem?_set]
    by_cases h : i = b + q
    ·omega
    ·rw [if_neg h]
   have g2 : (y.set i (y.getD (b + q) ((0, 0, ()) : Int × Int × Unit))).getD i ((0, 0, ()) : Int × Int × Unit) = y.getD (b + q) ((0, 0, ()) : Int × Int × Unit) := by rw [getD_eq ((0, 0, ()) : Int × Int × Unit) (show i < (y.set i (y.getD (b + q) ((0, 0, ()) : Int × Int × Unit))).length by simp; omega)]; simp
   rw [g1, take_getD' ((0, 0, ()) : Int × Int × Unit) (show i < (y.set i (y.getD (b + q) ((0, 0, ()) : Int × Int × Unit))).length by simp; omega), List.drop_set_of_lt (by omega), List.take_set_of_le (Nat.le_refl i), g2, show b + (q + 1) = b + q + 1 by omega]
   simp
theorem dcomp_l2 (y : List Dy) (hN : y.length ≤ 1000000) : ∀ (k q : Nat), y.length - q = k → 1 ≤ q → q ≤ y.length →
  slices_Compact_api_Day_api_Day.l2 q y = some (y.take q ++ ddT (y.getD (q - 1) ((0, 0, ()) : Int × Int × Unit)) (y.drop q), ()) := by
 intro k
 induction k with
 | zero =>
  intro q hk hq hq2
  have e : q = y.length := by omega
  subst e
  rw [slices_Compact_api_Day_api_Day.l2_eq]
  simp (disch := omega) only [ss, cond_true, cond_false, Option.bind_some, slices_Compact_api_Day_api_Day.l5_eq, List.drop_length, List.take_length, ddT, List.append_nil]
 | succ k ih =>
  intro q hk hq hq2
  have hlt : q < y.length := by omega
  have w1 : IntKind.i64.wrap ((q : Int) - 1) = ((q - 1 : Nat) : Int) := wr_sub1 (by omega) (by omega)
  rw [slices_Compact_api_Day_api_Day.l2_eq, drop_getD' ((0, 0, ()) : Int × Int × Unit) hlt]
  simp (disch := omega) only [ss, cond_true, cond_false, Option.bind_some, w1, ddT]
  by_cases hc : y.getD q ((0, 0, ()) : Int × Int × Unit) = y.getD (q - 1) ((0, 0, ()) : Int × Int × Unit)
  ·have hc1 := decide_eq_true hc
   simp (disch := omega) only [ss, cond_true, cond_false, Option.bind_some, dy_eq, hc1, if_pos hc]
   have := dcomp_l3 y.length hN q _ q 1 y rfl rfl (Nat.le_refl _) (by omega) (by omega)
   rw [show q + 1 - 1 = q by omega] at this
   exact this
  ·have hc1 := decide_eq_false hc
   simp (disch := omega) only [ss, cond_true, cond_false, Option.bind_some, dy_eq, hc1, if_neg hc]
   have := ih (q + 1) (by omega) (by omega) (by omega)
   rw [show q + 1 - 1 = q by omega, take_getD' ((0, 0, ()) : Int × Int × Unit) hlt] at this
   refine Eq.trans this ?_
   simp
theorem dcompact_spec (y : List Dy) (hN : y.length ≤ 1000000) : slices_Compact_api_Day_api_Day.f y = some (ddsT y, ()) := by
 rw [slices_Compact_api_Day_api_Day.f_eq]
 cases y with
 | nil => simp (disch := omega) only [ss, cond_true, cond_false, Option.bind_some, List.length_nil, Int.natCast_zero, slices_Compact_api_Day_api_Day.l1_eq]; rfl
 | cons a l =>
  by_cases h : l = []
  ·subst h
   simp (disch := omega) only [ss, cond_true, cond_false, Option.bind_some, List.length_cons, List.length_nil, slices_Compact_api_Day_api_Day.l1_eq]
   rfl
  ·have h1 : 0 < l.length := List.length_pos_iff.2 h
   have := dcomp_l2 (a :: l) hN _ 1 rfl (Nat.le_refl _) (by simp)
   simp (disch := omega) only [ss, cond_true, cond_false, Option.bind_some, List.length_cons]
   refine Eq.trans this ?_
   rfl
end Go.GV.YtkkfgajlnpcpcaaGreatDoor
namespace Go.GV.YtkkfgajlnpcpcaaGreatDoor
open Go.Proofs
theorem vsplit_l1 (c : UInt8) (s : List UInt8) (hs : s.length ≤ 1000000) : ∀ (k i from_ : Nat) (y : List ByteArray), s.length + 1 - i = k → from_ ≤ i → i ≤ s.length → y.length ≤ i → c ∉ (s.drop from_).take (i - from_) →
  vokref_Split.l1 (mkS s) (c.toNat : Int) from_ i y = some (y ++ (segs c (s.drop from_)).map mkS, ()) := by
 have hlim : limit = 17179869184 := rfl
 intro k
 induction k with
 | zero => intro i from_ y hk hf hi; omega
 | succ k ih =>
  intro i from_ y hk hf hi hy hn
  have hex : (mkS s).extract from_ i = mkS ((s.drop from_).take (i - from_)) := B_inj (by rw [B_ext, B_mk, B_mk])
  rw [vokref_Split.l1_eq]
  by_cases hlt : i < s.length
  ·have hbt : bt (mkS s) (i : Int) = ((s.getD i 0).toNat : Int) := bt_nat (mkS s) i
   have hsp : s.drop from_ = (s.drop from_).take (i - from_) ++ s.getD i 0 :: s.drop (i + 1) := by
    conv => lhs; rw [← List.take_append_drop (i - from_) (s.drop from_)]
    rw [List.drop_drop, show from_ + (i - from_) = i by omega, drop_getD' 0 hlt]
   by_cases hc : ((s.getD i 0).toNat : Int) = (c.toNat : Int)
   ·have hc' := (u8_int _ _).1 hc
    simp (disch := omega) only [ss, cond_true, cond_false, Option.bind_some, szS, hbt, vokref_Split.l2_eq, hex, List.length_singleton, hlim]
    refine (ih (i + 1) (i + 1) (y ++ [mkS ((s.drop from_).take (i - from_))]) (by omega) (by omega) (by omega) (by simp; omega) (by simp)).trans ?_
    have hseg : segs c (s.drop from_) = (s.drop from_).take (i - from_) :: segs c (s.drop (i + 1)) := by
     conv => lhs; rw [hsp, hc']
     exact segs_some hn
    rw [hseg]
    simp
   ·have hc' : ¬ s.getD i 0 = c := fun q => hc (by rw [q])
    simp (disch := omega) only [ss, cond_true, cond_false, Option.bind_some, szS, hbt, vokref_Split.l2_eq]
    refine ih (i + 1) from_ y (by omega) (by omega) (by omega) (by omega) ?_
    rw [show i + 1 - from_ = (i - from_) + 1 by omega, take_getD' 0 (show i - from_ < (s.drop from_).length by rw [List.length_drop]; omega)]
    have : (s.drop from_).getD (i - from_) 0 = s.getD i 0 := by
     rw [getD_eq 0 (show i - from_ < (s.drop from_).length by rw [List.length_drop]; omega), getD_eq 0 hlt, List.getElem_drop]
     congr 1
     omega
    rw [this]
    intro q
    rcases List.mem_append.1 q with q | q
    ·exact hn q
    ·rw [List.mem_singleton] at q; exact hc' q.symm
  ·have e : i = s.length := by omega
   subst e
   have ht : (s.drop from_).take (s.length - from_) = s.drop from_ := List.take_of_length_le (by rw [List.length_drop]; omega)
   rw [ht] at hn hex
   simp (disch := omega) only [ss, cond_true, cond_false, Option.bind_some, szS, vokref_Split.l2_eq, hex, List.length_singleton, hlim]
   rw [vokref_Split.l1_eq]
   simp (disch := omega) only [ss, cond_true, cond_false, Option.bind_some, szS]
   rw [segs_none hn]
   rfl
theorem vsplit_spec (c : UInt8) (s : List UInt8) (hs : s.length ≤ 1000000) : vokref_Split.f (mkS s) (c.toNat : Int) = some ((segs c s).map mkS, ()) := by
 rw [vokref_Split.f_eq]
 have := vsplit_l1 c s hs _ 0 0 [] rfl (Nat.le_refl _) (Nat.zero_le _) (Nat.le_refl _) (by simp)
 rw [Int.natCast_zero] at this
 simpa using this
theorem segs_len (c : UInt8) (l : List UInt8) : (segs c l).length ≤ l.length + 1 ∧ ∀ s ∈ segs c l, s.length ≤ l.length := by
 suffices h : ∀ (k : Nat) (l : List UInt8), l.length = k → (segs c l).length ≤ l.length + 1 ∧ ∀ s ∈ segs c l, s.length ≤ l.length from h _ l rfl
 intro k
 induction k using Nat.strongRecOn with
 | ind k ih =>
  intro l hl
  rcases first_of (c := c) (l := l) with h | ⟨a, b, h, h2⟩
  ·rw [segs_none h]
   refine ⟨by simp, fun s hs => ?_⟩
   rw [List.mem_singleton] at hs
   rw [hs]
   exact Nat.le_refl _
  ·subst h
   rw [segs_some h2]
   simp only [List.length_append, List.length_cons] at hl ⊢
   obtain ⟨h3, h4⟩ := ih b.length (by omega) b rfl
   refine ⟨by omega, fun s hs => ?_⟩
   rcases List.mem_cons.1 hs with rfl | hs
   ·omega
   ·have := h4 s hs; omega
theorem segs_ne (c : UInt8) (l : List UInt8) : segs c l ≠ [] := by
 rcases first_of (c := c) (l := l) with h | ⟨a, b, h, h2⟩
 ·rw [segs_none h]; simp
 ·subst h; rw [segs_some h2]; simp
def posF : Int → List (List UInt8) → List UInt8 → Int
 | _, [], _ => -1
 | i, w :: l, v => if w = v then i else posF (i + 1) l v
theorem posF_ge : ∀ (l : List (List UInt8)) (v : List UInt8) (i : Int), 0 ≤ i → (0 ≤ posF i l v ↔ v ∈ l) ∧ posF i l v ≤ i + l.length ∧ -1 ≤ posF i l v ∧ (posF i l v < 0 → posF i l v = -1)
 | [], v, i, h => by simp [posF]; omega
 | w :: l, v, i, h => by
  unfold posF
  by_cases hw : w = v
  ·rw [if_pos hw]
   refine ⟨⟨fun _ => by rw [hw]; exact List.mem_cons_self, fun _ => h⟩, by simp; omega, by omega, by omega⟩
  ·rw [if_neg hw]
   obtain ⟨h1, h2, h3, h4⟩ := posF_ge l v (i + 1) (by omega)
   refine ⟨h1.trans ⟨List.mem_cons_of_mem _, fun q => (List.mem_cons.1 q).resolve_left fun q => hw q.symm⟩, by simp; omega, h3, h4⟩
theorem posF_succ : ∀ (l : List (List UInt8)) (v : List UInt8) (i : Int), posF (i + 1) l v = if v ∈ l then posF i l v + 1 else -1
 | [], v, i => by simp [posF]
 | w :: l, v, i => by
  unfold posF
  by_cases hw : w = v
  ·rw [if_pos hw, if_pos hw, if_pos (by rw [hw]; exact List.mem_cons_self)]
  ·rw [if_neg hw, if_neg hw, posF_succ l v (i + 1)]
   by_cases hm : v ∈ l
   ·rw [if_pos hm, if_pos (List.mem_cons_of_mem _ hm)]
   ·rw [if_neg hm, if_neg fun q => hm ((List.mem_cons.1 q).resolve_left fun q => hw q.symm)]
theorem gm (l : List (List UInt8)) (i : Nat) (hi : i < l.length) : (l.map mkS).getD i ByteArray.empty = mkS (l.getD i []) := by
 rw [getD_eq ByteArray.empty (by simpa using hi), getD_eq [] hi, List.getElem_map]
theorem index_spec (l : List (List UInt8)) (v : List UInt8) (hl : l.length ≤ 1000000) : slices_Index_string_string.f (l.map mkS) (mkS v) = some (posF 0 l v, ()) := by
 have key : ∀ (k i : Nat), l.length - i = k → i ≤ l.length → slices_Index_string_string.l1 (l.map mkS) (mkS v) l.length i = some (posF i (l.drop i) v, ()) := by
  intro k
  induction k with
  | zero =>
   intro i hk hi
   have e : i = l.length := by omega
   subst e
   rw [slices_Index_string_string.l1_eq, List.drop_length]
   simp (disch := omega) only [ss, cond_true, cond_false, Option.bind_some]
   rfl
  | succ k ih =>
   intro i hk hi
   have hlt : i < l.length := by omega
   have hg := gm l i hlt
   have hml : (l.map mkS).length = l.length := List.length_map ..
   rw [slices_Index_string_string.l1_eq, drop_getD' [] hlt]
   simp only [beq_S]
   simp (disch := omega) only [ss, cond_true, cond_false, Option.bind_some, hml, hg, posF]
   by_cases h : l.getD i [] = v
   ·rw [if_pos h, dp (by rw [h]), cond_true]
   ·rw [if_neg h, dn fun q => h (mkS_inj q.symm), cond_false]
    exact ih (i + 1) (by omega) (by omega)
 rw [slices_Index_string_string.f_eq]
 have := key _ 0 rfl (Nat.zero_le _)
 rw [List.drop_zero, Int.natCast_zero] at this
 rw [List.length_map]
 exact this
theorem contains_spec (l : List (List UInt8)) (v : List UInt8) (hl : l.length ≤ 1000000) : slices_Contains_string_string.f (l.map mkS) (mkS v) = some (decide (v ∈ l), ()) := by
 rw [slices_Contains_string_string.f_eq, index_spec l v hl]
 simp only [Option.bind_some]
 rw [show decide (posF 0 l v ≥ 0) = decide (v ∈ l) from decide_eq_decide.2 (posF_ge l v 0 (by omega)).1]
theorem word_spec (l : List (List UInt8)) (v : List UInt8) (hl : l.length ≤ 1000000) : vokref4_word.f (l.map mkS) (mkS v) = some (if v = [] then -1 else posF 0 l v, ()) := by
 have key : ∀ (k i : Nat), l.length - i = k → i ≤ l.length → vokref4_word.l1 (l.map mkS) (mkS v) i = some (if v = [] then -1 else posF i (l.drop i) v, ()) := by
  intro k
  induction k with
  | zero =>
   intro i hk hi
   have e : i = l.length := by omega
   subst e
   have hml : (l.map mkS).length = l.length := List.length_map ..
   rw [vokref4_word.l1_eq, List.drop_length]
   simp (disch := omega) only [ss, cond_true, cond_false, Option.bind_some, hml]
   by_cases hv : v = []
   ·rw [if_pos hv]
   ·rw [if_neg hv]; rfl
  | succ k ih =>
   intro i hk hi
   have hlt : i < l.length := by omega
   have hg := gm l i hlt
   have hml : (l.map mkS).length = l.length := List.length_map ..
   have next := ih (i + 1) (by omega) (by omega)
   rw [vokref4_word.l1_eq, drop_getD' [] hlt]
   simp only [beq_S]
   simp (disch := omega) only [ss, cond_true, cond_false, Option.bind_some, hml, hg]
   have hmt : (⟨#[]⟩ : ByteArray) = mkS [] := rfl
   rw [hmt]
   by_cases hv : v = []
   ·rw [if_pos hv] at next ⊢
    have e2 : decide (mkS v = mkS []) = true := dp (by rw [hv])
    rw [e2]
    by_cases h : mkS (l.getD i []) = mkS v
    ·rw [dp h, cond_true, vokref4_word.l2_eq]
     simp (disch := omega) only [ss, cond_true, cond_false, Option.bind_some]
     exact next
    ·rw [dn h, cond_false, vokref4_word.l2_eq]
     simp (disch := omega) only [ss, cond_true, cond_false, Option.bind_some]
     exact next
   ·rw [if_neg hv] at next ⊢
    have e2 : decide (mkS v = mkS []) = false := dn fun q => hv (mkS_inj q)
    rw [e2]
    unfold posF
    by_cases h : l.getD i [] = v
    ·rw [if_pos h, dp (by rw [h]), cond_true, vokref4_word.l2_eq]
     simp (disch := omega) only [ss, cond_true, cond_false, Option.bind_some]
    ·rw [if_neg h, dn fun q => h (mkS_inj q), cond_false, vokref4_word.l2_eq]
     simp (disch := omega) only [ss, cond_true, cond_false, Option.bind_some]
     exact next
 rw [vokref4_word.f_eq]
 have := key _ 0 rfl (Nat.zero_le _)
 rw [List.drop_zero, Int.natCast_zero] at this
 exact this
theorem isN_uniq {s : List UInt8} {n m : Int} (h : isN s n) (g : isN s m) : n = m := itoa_inj (h.1.symm.trans g.1)
theorem nums_or : ∀ p : List (List UInt8), (∃ ns, All2 isN p ns) ∨ ∃ s ∈ p, ∀ n, ¬ isN s n
 | [] => .inl ⟨[], trivial⟩
 | s :: p => by
  by_cases h : ∃ n, isN s n
  ·obtain ⟨n, hn⟩ := h
   rcases nums_or p with ⟨ns, h2⟩ | ⟨t, ht, h2⟩
   ·exact .inl ⟨n :: ns, hn, h2⟩
   ·exact .inr ⟨t, List.mem_cons_of_mem _ ht, h2⟩
  ·exact .inr ⟨s, List.mem_cons_self, fun n hn => h ⟨n, hn⟩⟩
theorem sorted_dds {y : List Int} (hy : y.length ≤ 1000000) : ∃ r, slices_Sort_int_int.f y = some (r, ()) ∧ r.length = y.length ∧ rises (dds r) ∧ ∀ x, x ∈ dds r ↔ x ∈ y := by
 have hs : slices_Sort_int_int.f y = some (y.mergeSort fun x y => decide (x ≤ y), ()) := by
  rw [slices_Sort_int_int.f_sem]
  show (bif decide (List.length y ≤ limit) then some (List.mergeSort (α := Int) y (fun x y => decide (x ≤ y)), ()) else none) = _
  rw [dp (by simp only [limit]; omega), cond_true]
 have hp : (y.mergeSort fun x y => decide (x ≤ y)).Perm y := List.mergeSort_perm y _
 have hso : (y.mergeSort fun x y => decide (x ≤ y)).Pairwise (· ≤ ·) := by
  have := List.pairwise_mergeSort (le := fun x y : Int => decide (x ≤ y)) (fun a b c h1 h2 => by simp at *; omega) (fun a b => by simp; omega) y
  exact this.imp fun h => by simpa using h
 generalize y.mergeSort (fun x y => decide (x ≤ y)) = r at hs hp hso
 refine ⟨r, hs, hp.length_eq, ?_, fun x => ?_⟩
 ·cases r with
  | nil => exact List.Pairwise.nil
  | cons a r => exact dd_rises r a hso
 ·have e : x ∈ dds r ↔ x ∈ r := by
   cases r with
   | nil => exact Iff.rfl
   | cons a r =>
    show x ∈ a :: dd a r ↔ _
    rw [List.mem_cons, List.mem_cons]
    have := dd_mem r a x
    constructor
    ·rintro (h | h)
     ·exact .inl h
     ·rcases this.1 (.inl h) with h | h
      ·exact .inr h
      ·exact .inl h
    ·rintro (h | h)
     ·exact .inl h
     ·rcases this.2 (.inl h) with h | h
      ·exact .inr h
      ·exact .inl h
  rw [e, hp.mem_iff]
noncomputable def listEnd (y : List Int) : Option (List Int × Bool × Unit) := bif decide ((y.length : Int) > 60) then (some ([], false, ())) else ((slices_Sort_int_int.f y).bind fun t3 => (slices_Compact_int_int.f t3.1).bind fun t4 => some (t4.1, true, ()))
theorem list_l1 (p : List (List UInt8)) (hp : p.length ≤ 100000) (hpl : ∀ s ∈ p, s.length ≤ 100000) : ∀ (k i : Nat) (y : List Int), p.length - i = k → i ≤ p.length → y.length ≤ i →
  (∀ ns, All2 isN (p.drop i) ns → rule_list.l1 (p.map mkS) p.length i y = listEnd (y ++ ns)) ∧ ((∃ s ∈ p.drop i, ∀ n, ¬ isN s n) → rule_list.l1 (p.map mkS) p.length i y = some ([], false, ())) := by
 have hlim : limit = 17179869184 := rfl
 have hml : (p.map mkS).length = p.length := List.length_map ..
 intro k
 induction k with
 | zero =>
  intro i y hk hi hy
  have e : i = p.length := by omega
  subst e
  rw [rule_list.l1_eq, List.drop_length]
  simp (disch := omega) only [ss, cond_true, cond_false, Option.bind_some, hml]
  refine ⟨fun ns hns => ?_, fun ⟨s, hs, _⟩ => by cases hs⟩
  cases ns with
  | nil => rw [List.append_nil]; rfl
  | cons _ _ => exact hns.elim
 | succ k ih =>
  intro i y hk hi hy
  have hlt : i < p.length := by omega
  have hg := gm p i hlt
  rw [rule_list.l1_eq, drop_getD' [] hlt]
  rcases number_spec (p.getD i []) (by have := hpl _ (getD_mem' [] hlt); omega) with ⟨n, hn, hf⟩ | ⟨hn, n, hf⟩
  ·simp (disch := omega) only [ss, cond_true, cond_false, Option.bind_some, hml, hg, hf, List.length_singleton, hlim]
   obtain ⟨h1, h2⟩ := ih (i + 1) (y ++ [n]) (by omega) (by omega) (by simp; omega)
   refine ⟨fun ns hns => ?_, fun ⟨s, hs, hs2⟩ => ?_⟩
   ·cases ns with
    | nil => exact hns.elim
    | cons m ns =>
     have e := isN_uniq hns.1 hn
     subst e
     refine (h1 ns hns.2).trans ?_
     rw [List.append_assoc]
     rfl
   ·refine h2 ?_
    rcases List.mem_cons.1 hs with rfl | hs
    ·exact absurd hn (hs2 n)
    ·exact ⟨s, hs, hs2⟩
  ·simp (disch := omega) only [ss, cond_true, cond_false, Option.bind_some, hml, hg, hf]
   refine ⟨fun ns hns => ?_, fun _ => trivial⟩
   cases ns with
   | nil => exact hns.elim
   | cons m ns => exact absurd hns.1 (hn m)
theorem vnums_l1 (p : List (List UInt8)) (hp : p.length ≤ 100000) (hpl : ∀ s ∈ p, s.length ≤ 100000) : ∀ (k i : Nat) (y : List Int), p.length - i = k → i ≤ p.length → y.length ≤ i →
  (∀ ns, All2 isN (p.drop i) ns → vokref4_numbers.l1 (p.map mkS) i y = ((vokref_Sorted.f (y ++ ns)).bind fun t3 => some (t3.1, true, ()))) ∧ ((∃ s ∈ p.drop i, ∀ n, ¬ isN s n) → vokref4_numbers.l1 (p.map mkS) i y = some ([], false, ())) := by
 have hlim : limit = 17179869184 := rfl
 have hml : (p.map mkS).length = p.length := List.length_map ..
 intro k
 induction k with
 | zero =>
  intro i y hk hi hy
  have e : i = p.length := by omega
  subst e
  rw [vokref4_numbers.l1_eq, List.drop_length]
  simp (disch := omega) only [ss, cond_true, cond_false, Option.bind_some, hml]
  refine ⟨fun ns hns => ?_, fun ⟨s, hs, _⟩ => by cases hs⟩
  cases ns with
  | nil => rw [List.append_nil]
  | cons _ _ => exact hns.elim
 | succ k ih =>
  intro i y hk hi hy
  have hlt : i < p.length := by omega
  have hg := gm p i hlt
  rw [vokref4_numbers.l1_eq, drop_getD' [] hlt]
  rcases vnumber_spec (p.getD i []) (by have := hpl _ (getD_mem' [] hlt); omega) with ⟨n, hn, hf⟩ | ⟨hn, n, hf⟩
  ·simp (disch := omega) only [ss, cond_true, cond_false, Option.bind_some, hml, hg, hf, List.length_singleton, hlim]
   obtain ⟨h1, h2⟩ := ih (i + 1) (y ++ [n]) (by omega) (by omega) (by simp; omega)
   refine ⟨fun ns hns => ?_, fun ⟨s, hs, hs2⟩ => ?_⟩
   ·cases ns with
    | nil => exact hns.elim
    | cons m ns =>
     have e := isN_uniq hns.1 hn
     subst e
     refine (h1 ns hns.2).trans ?_
     rw [List.append_assoc]
     rfl
   ·refine h2 ?_
    rcases List.mem_cons.1 hs with rfl | hs
    ·exact absurd hn (hs2 n)
    ·exact ⟨s, hs, hs2⟩
  ·simp (disch := omega) only [ss, cond_true, cond_false, Option.bind_some, hml, hg, hf]
   refine ⟨fun ns hns => ?_, fun _ => trivial⟩
   cases ns with
   | nil => exact hns.elim
   | cons m ns => exact absurd hns.1 (hn m)
theorem All2_len {α β : Type} {R : α → β → Prop} : ∀ {l : List α} {m : List β}, All2 R l m → l.length = m.length
 | [], [], _ => rfl
 | _ :: l, _ :: m, h => by simp [All2_len h.2]
 | [], _ :: _, h => h.elim
 | _ :: _, [], h => h.elim
def isL (v : List UInt8) (r : List Int) : Prop := (rises r ∧ r.length ≤ 60) ∧ ∃ ns, All2 isN (segs 44 v) ns ∧ ns.length ≤ 60 ∧ ∀ x, x ∈ r ↔ x ∈ ns
theorem dd_len : ∀ (l : List Int) (p : Int), (dd p l).length ≤ l.length
 | [], _ => Nat.le_refl _
 | a :: l, p => by
  unfold dd
  have := dd_len l a
  split <;> simp <;> omega
theorem dds_len (l : List Int) : (dds l).length ≤ l.length := by
 cases l with
 | nil => exact Nat.le_refl _
 | cons a l => show (a :: dd a l).length ≤ _; simp [dd_len]
theorem list_spec (v : List UInt8) (hv : v.length ≤ 50000) :
  (∃ r, isL v r ∧ rule_list.f (mkS v) = some (r, true, ()) ∧ vokref4_numbers.f (mkS v) = some (r, true, ())) ∨
  ((∀ r, ¬ isL v r) ∧ rule_list.f (mkS v) = some ([], false, ()) ∧ vokref4_numbers.f (mkS v) = some ([], false, ())) := by
 have hsl := segs_len 44 v
 have hS : strings_Split.f (mkS v) ⟨#[44]⟩ = some ((segs 44 v).map mkS, ()) := split_one (c := 44) v (by omega)
 have hV : vokref_Split.f (mkS v) 44 = some ((segs 44 v).map mkS, ()) := vsplit_spec 44 v (by omega)
 have hml : ((segs 44 v).map mkS).length = (segs 44 v).length := List.length_map ..
 have h1 := list_l1 (segs 44 v) (by omega) (fun s hs => by have := hsl.2 s hs; omega) _ 0 [] rfl (Nat.zero_le _) (Nat.le_refl _)
 have h2 := vnums_l1 (segs 44 v) (by omega) (fun s hs => by have := hsl.2 s hs; omega) _ 0 [] rfl (Nat.zero_le _) (Nat.le_refl _)
 rw [List.drop_zero, Int.natCast_zero] at h1 h2
 have hf1 : rule_list.f (mkS v) = rule_list.l1 ((segs 44 v).map mkS) (segs 44 v).length 0 [] := by rw [rule_list.f_eq, hS, ← hml]; rfl
 have hf2 : vokref4_numbers.f (mkS v) = bif decide (((segs 44 v).length : Int) > 60) then some ([], false, ()) else vokref4_numbers.l1 ((segs 44 v).map mkS) 0 [] := by rw [vokref4_numbers.f_eq, hV, ← hml]; rfl
 rcases nums_or (segs 44 v) with ⟨ns, hns⟩ | hbad
 ·have hlen := All2_len hns
  have e1 := h1.1 ns hns
  have e2 := h2.1 ns hns
  rw [List.nil_append] at e1 e2
  by_cases h60 : (ns.length : Int) > 60
  ·refine .inr ⟨fun r hr => ?_, ?_, ?_⟩
   ·obtain ⟨_, ms, h3, h4, _⟩ := hr
    have := All2_len h3
    omega
   ·rw [hf1, e1]
    unfold listEnd
    simp (disch := omega) only [ss, cond_true, cond_false, Option.bind_some]
   ·rw [hf2]
    simp (disch := omega) only [ss, cond_true, cond_false, Option.bind_some]
  ·obtain ⟨r, h3, h4, h5, h6⟩ := sorted_dds (y := ns) (by omega)
   obtain ⟨q, h7, h8, h9⟩ := Sorted_spec ns (by omega)
   have e : q = dds r := rises_uniq h8 h5 fun x => (h9 x).trans (h6 x).symm
   subst e
   refine .inl ⟨dds r, ⟨⟨h5, by have := dds_len r; omega⟩, ns, hns, by omega, h6⟩, ?_, ?_⟩
   ·rw [hf1, e1]
    unfold listEnd
    simp (disch := omega) only [ss, cond_true, cond_false, Option.bind_some, h3, compact_spec r (by omega)]
   ·rw [hf2, e2]
    simp (disch := omega) only [ss, cond_true, cond_false, Option.bind_some, h7]
 ·refine .inr ⟨fun r hr => ?_, ?_, ?_⟩
  ·obtain ⟨_, ms, h3, _, _⟩ := hr
   obtain ⟨s, hs, hs2⟩ := hbad
   have : ∀ (p : List (List UInt8)) (ms : List Int), All2 isN p ms → s ∈ p → ∃ n, isN s n := by
    intro p
    induction p with
    | nil => intro ms _ h; cases h
    | cons t p ih =>
     intro ms h hm
     cases ms with
     | nil => exact h.elim
     | cons m ms =>
      rcases List.mem_cons.1 hm with rfl | hm
      ·exact ⟨m, h.1⟩
      ·exact ih ms h.2 hm
   obtain ⟨n, hn⟩ := this _ ms h3 hs
   exact hs2 n hn
  ·rw [hf1, h1.2 hbad]
  ·rw [hf2, h2.2 hbad]
   cases decide (((segs 44 v).length : Int) > 60) <;> rfl
end Go.GV.YtkkfgajlnpcpcaaGreatDoor
namespace Go.GV.YtkkfgajlnpcpcaaGreatDoor
open Go.Proofs
def wd : List (List UInt8) := [[77, 79], [84, 85], [87, 69], [84, 72], [70, 82], [83, 65], [83, 85]]
theorem weekdays_eq : rule_weekdays.f = some (wd.map mkS, ()) := by rw [rule_weekdays.f_eq]; rfl
theorem wdays_eq : vokref4_wdays.f = some (wd.map mkS, ()) := by rw [vokref4_wdays.f_eq]; rfl
theorem posF_lt : ∀ (l : List (List UInt8)) (v : List UInt8) (i : Int), 0 ≤ i → posF i l v < i + l.length
 | [], v, i, h => by simp [posF]; omega
 | w :: l, v, i, h => by
  unfold posF
  split
  ·simp; omega
  ·have := posF_lt l v (i + 1) (by omega)
   simp
   omega
def isD (s : List UInt8) (n w : Int) : Prop := 2 ≤ s.length ∧ w = posF 0 wd (s.drop (s.length - 2)) ∧ 0 ≤ w ∧ ((s.take (s.length - 2) = [] ∧ n = 0) ∨ (s.take (s.length - 2) ≠ [] ∧ isN (s.take (s.length - 2)) n ∧ n ≠ 0))
theorem isD_bd {s : List UInt8} {n w : Int} (h : isD s n w) : 0 ≤ w ∧ w ≤ 6 ∧ -999999999 ≤ n ∧ n ≤ 999999999 := by
 obtain ⟨_, h2, h3, h4⟩ := h
 have h5 := posF_lt wd (s.drop (s.length - 2)) 0 (by omega)
 have h6 : (wd.length : Int) = 7 := rfl
 refine ⟨h3, by omega, ?_⟩
 rcases h4 with ⟨_, rfl⟩ | ⟨_, h7, _⟩
 ·omega
 ·exact h7.2
theorem isD_uniq {s : List UInt8} {n w m v : Int} (h : isD s n w) (g : isD s m v) : n = m ∧ w = v := by
 obtain ⟨_, h2, _, h4⟩ := h
 obtain ⟨_, g2, _, g4⟩ := g
 refine ⟨?_, by rw [h2, g2]⟩
 rcases h4 with ⟨h5, h6⟩ | ⟨h5, h6, _⟩ <;> rcases g4 with ⟨g5, g6⟩ | ⟨g5, g6, _⟩
 ·rw [h6, g6]
 ·exact absurd h5 g5
 ·exact absurd g5 h5
 ·exact isN_uniq h6 g6
theorem day_spec (s : List UInt8) (hs : s.length ≤ 100000) :
  (∃ n w, isD s n w ∧ rule_day.f (mkS s) = some ((n, w, ()), true, ())) ∨ ((∀ n w, ¬ isD s n w) ∧ ∃ d, rule_day.f (mkS s) = some (d, false, ())) := by
 rw [rule_day.f_eq]
 by_cases c1 : (s.length : Int) < 2
 ·refine .inr ⟨fun n w h => ?_, (0, 0, ()), ?_⟩
  ·have := h.1
   omega
  ·simp (disch := omega) only [ss, cond_true, cond_false, Option.bind_some, szS]
 ·have w1 : IntKind.i64.wrap ((s.length : Int) - 2) = ((s.length - 2 : Nat) : Int) := by rw [wr (by omega) (by omega)]; omega
  have x1 : (mkS s).extract (s.length - 2) s.length = mkS (s.drop (s.length - 2)) := B_inj (by rw [← szS s, B_exte, B_mk, B_mk])
  have x2 : (mkS s).extract 0 (s.length - 2) = mkS (s.take (s.length - 2)) := B_inj (by rw [B_ext0, B_mk, B_mk])
  have hI := index_spec wd (s.drop (s.length - 2)) (by decide)
  have hm : (⟨#[]⟩ : ByteArray) = mkS [] := rfl
  simp (disch := omega) only [ss, cond_true, cond_false, Option.bind_some, szS, w1, x1, x2, weekdays_eq, hI, beq_S, hm]
  have hp := (posF_ge wd (s.drop (s.length - 2)) 0 (by omega)).2
  by_cases c2 : s.take (s.length - 2) = []
  ·have e : decide (mkS (s.take (s.length - 2)) = mkS []) = true := dp (by rw [c2])
   rw [e, cond_true]
   by_cases c3 : posF 0 wd (s.drop (s.length - 2)) ≥ 0
   ·rw [dp c3]
    exact .inl ⟨0, _, ⟨by omega, rfl, c3, .inl ⟨c2, rfl⟩⟩, rfl⟩
   ·rw [dn c3]
    refine .inr ⟨fun n w h => ?_, _, rfl⟩
    have h2 := h.2.1
    have h3 := h.2.2.1
    omega
  ·have e : decide (mkS (s.take (s.length - 2)) = mkS []) = false := dn fun q => c2 (mkS_inj q)
   rw [e, cond_false]
   rcases number_spec (s.take (s.length - 2)) (by rw [List.length_take]; omega) with ⟨n, hn, hf⟩ | ⟨hn, n, hf⟩
   ·rw [hf]
    simp only [Option.bind_some, cond_true]
    by_cases c4 : n = 0
    ·simp (disch := omega) only [ss, cond_true, cond_false, Option.bind_some]
     refine .inr ⟨fun m w h => ?_, _, rfl⟩
     rcases h.2.2.2 with ⟨h5, _⟩ | ⟨_, h6, h7⟩
     ·exact c2 h5
     ·exact h7 ((isN_uniq h6 hn).trans c4)
    ·simp (disch := omega) only [ss, cond_true, cond_false, Option.bind_some]
     by_cases c3 : posF 0 wd (s.drop (s.length - 2)) ≥ 0
     ·rw [dp c3]
      exact .inl ⟨n, _, ⟨by omega, rfl, c3, .inr ⟨c2, hn, c4⟩⟩, rfl⟩
     ·rw [dn c3]
      refine .inr ⟨fun m w h => ?_, _, rfl⟩
      have h2 := h.2.1
      have h3 := h.2.2.1
      omega
   ·rw [hf]
    simp only [Option.bind_some, cond_false]
    refine .inr ⟨fun m w h => ?_, _, rfl⟩
    rcases h.2.2.2 with ⟨h5, _⟩ | ⟨_, h6, _⟩
    ·exact c2 h5
    ·exact hn m h6
theorem vd_l4 (x4 : List ByteArray) (x6 x8 x9 : Int) : vokref4_days.l4 x4 x6 x8 x9 = vokref4_days.l4a x4 x6 x8 x9 [] := by rw [vokref4_days.l4_eq, vokref4_days.l4a_eq]
theorem vd_l3 (x4 : List ByteArray) (x6 x8 x9 : Int) (b : Bool) : vokref4_days.l3 x4 x6 x8 x9 b = vokref4_days.l3a x4 x6 x8 x9 b [] := by rw [vokref4_days.l3_eq, vokref4_days.l3a_eq, vd_l4]
theorem vd_l2 (x4 : List ByteArray) (x6 x7 x8 x9 : Int) (b : Bool) : vokref4_days.l2 x4 x6 x7 x8 x9 b = vokref4_days.l2a x4 x6 x7 x8 x9 b [] := by rw [vokref4_days.l2_eq, vokref4_days.l2a_eq, vd_l3, vd_l3, vd_l3]
theorem vd_l1 (x4 : List ByteArray) (x6 : Int) : vokref4_days.l1 x4 x6 = vokref4_days.l1a x4 x6 [] := by
 rw [vokref4_days.l1_eq, vokref4_days.l1a_eq]
 simp only [vd_l2]
theorem vday_step (p : List (List UInt8)) (hp : p.length ≤ 100000) (i : Nat) (hi : i < p.length) (hpl : (p.getD i []).length ≤ 100000) (y : List Int) (hy : y.length ≤ i) :
  (∀ n w, isD (p.getD i []) n w → vokref4_days.l1a (p.map mkS) i y = vokref4_days.l1a (p.map mkS) (i + 1 : Nat) (y ++ [7 * n + w])) ∧
  ((∀ n w, ¬ isD (p.getD i []) n w) → vokref4_days.l1a (p.map mkS) i y = some ([], false, ())) := by
 have hlim : limit = 17179869184 := rfl
 have hml : (p.map mkS).length = p.length := List.length_map ..
 have hg := gm p i hi
 generalize hs : p.getD i [] = s at hg hpl
 have key : vokref4_days.l1a (p.map mkS) i y = bif decide ((s.length : Int) < 2) then (some ([], false, ())) else
   (bif decide (((s.length - 2 : Nat) : Int) > 0) then ((vokref4_number.f (mkS (s.take (s.length - 2)))).bind fun t8 => vokref4_days.l2a (p.map mkS) i ((s.length - 2 : Nat) : Int) (if s.drop (s.length - 2) = [] then -1 else posF 0 wd (s.drop (s.length - 2))) t8.1 t8.2.1 y)
    else vokref4_days.l2a (p.map mkS) i ((s.length - 2 : Nat) : Int) (if s.drop (s.length - 2) = [] then -1 else posF 0 wd (s.drop (s.length - 2))) 0 true y) := by
  rw [vokref4_days.l1a_eq]
  by_cases c1 : (s.length : Int) < 2
  ·simp (disch := omega) only [ss, cond_true, cond_false, Option.bind_some, hml, hg, szS]
  ·have w1 : IntKind.i64.wrap ((s.length : Int) - 2) = ((s.length - 2 : Nat) : Int) := by rw [wr (by omega) (by omega)]; omega
   have x1 : (mkS s).extract (s.length - 2) s.length = mkS (s.drop (s.length - 2)) := B_inj (by rw [← szS s, B_exte, B_mk, B_mk])
   have x2 : (mkS s).extract 0 (s.length - 2) = mkS (s.take (s.length - 2)) := B_inj (by rw [B_ext0, B_mk, B_mk])
   have hW := word_spec wd (s.drop (s.length - 2)) (by decide)
   simp (disch := omega) only [ss, cond_true, cond_false, Option.bind_some, hml, hg, szS, w1, x1, wdays_eq, hW, x2]
 rw [key]
 by_cases c1 : (s.length : Int) < 2
 ·rw [dp c1, cond_true]
  refine ⟨fun n w h => ?_, fun _ => rfl⟩
  have := h.1
  omega
 ·rw [dn c1, cond_false]
  have hne : s.drop (s.length - 2) ≠ [] := fun q => by
   have := congrArg List.length q
   rw [List.length_drop, List.length_nil] at this
   omega
  rw [if_neg hne]
  have hp2 := (posF_ge wd (s.drop (s.length - 2)) 0 (by omega)).2
  have hp3 := posF_lt wd (s.drop (s.length - 2)) 0 (by omega)
  have h7 : (wd.length : Int) = 7 := rfl
  have tail : ∀ n w, isD s n w → w = posF 0 wd (s.drop (s.length - 2)) → vokref4_days.l3a (p.map mkS) i w n false y = vokref4_days.l1a (p.map mkS) (i + 1 : Nat) (y ++ [7 * n + w]) := by
   intro n w h _
   have hb := isD_bd h
   rw [vokref4_days.l3a_eq]
   simp (disch := omega) only [ss, cond_true, cond_false, Option.bind_some, vokref4_days.l4a_eq, List.length_singleton, hlim]
   rfl
  have stop : ∀ n w, vokref4_days.l3a (p.map mkS) i w n true y = some ([], false, ()) := fun n w => by
   rw [vokref4_days.l3a_eq, cond_true]
  by_cases c3 : posF 0 wd (s.drop (s.length - 2)) < 0
  ·refine ⟨fun n w h => ?_, fun _ => ?_⟩
   ·have h2 := h.2.1
    have h3 := h.2.2.1
    omega
   ·by_cases c2 : ((s.length - 2 : Nat) : Int) > 0
    ·rw [dp c2, cond_true]
     rcases vnumber_spec (s.take (s.length - 2)) (by rw [List.length_take]; omega) with ⟨n, hn, hf⟩ | ⟨hn, n, hf⟩
     ·simp (disch := omega) only [ss, cond_true, cond_false, Option.bind_some, hf, vokref4_days.l2a_eq, stop]
     ·simp (disch := omega) only [ss, cond_true, cond_false, Option.bind_some, hf, vokref4_days.l2a_eq, stop]
    ·rw [dn c2, cond_false]
     simp (disch := omega) only [ss, cond_true, cond_false, Option.bind_some, vokref4_days.l2a_eq, stop]
  ·by_cases c2 : ((s.length - 2 : Nat) : Int) > 0
   ·have hnt : s.take (s.length - 2) ≠ [] := fun q => by
     have := congrArg List.length q
     rw [List.length_take, List.length_nil] at this
     omega
    rw [dp c2, cond_true]
    rcases vnumber_spec (s.take (s.length - 2)) (by rw [List.length_take]; omega) with ⟨n, hn, hf⟩ | ⟨hn, n, hf⟩
    ·simp (disch := omega) only [ss, cond_true, cond_false, Option.bind_some, hf, vokref4_days.l2a_eq]
     by_cases c4 : n = 0
     ·rw [dp c4, stop]
      refine ⟨fun m w h => ?_, fun _ => rfl⟩
      rcases h.2.2.2 with ⟨h5, _⟩ | ⟨_, h6, h8⟩
      ·exact absurd h5 hnt
      ·exact absurd ((isN_uniq h6 hn).trans c4) h8
     ·have hD : isD s n (posF 0 wd (s.drop (s.length - 2))) := ⟨by omega, rfl, by omega, .inr ⟨hnt, hn, c4⟩⟩
      rw [dn c4, tail n _ hD rfl]
      refine ⟨fun m w h => ?_, fun h => absurd hD (h _ _)⟩
      obtain ⟨e1, e2⟩ := isD_uniq h hD
      rw [e1, e2]
    ·simp (disch := omega) only [ss, cond_true, cond_false, Option.bind_some, hf, vokref4_days.l2a_eq, stop]
     refine ⟨fun m w h => ?_, fun _ => trivial⟩
     rcases h.2.2.2 with ⟨h5, _⟩ | ⟨_, h6, _⟩
     ·exact absurd h5 hnt
     ·exact absurd h6 (hn m)
   ·have hnt : s.take (s.length - 2) = [] := List.eq_nil_of_length_eq_zero (by rw [List.length_take]; omega)
    have hD : isD s 0 (posF 0 wd (s.drop (s.length - 2))) := ⟨by omega, rfl, by omega, .inl ⟨hnt, rfl⟩⟩
    rw [dn c2, cond_false]
    simp (disch := omega) only [ss, cond_true, cond_false, Option.bind_some, vokref4_days.l2a_eq]
    rw [tail 0 _ hD rfl]
    refine ⟨fun m w h => ?_, fun h => absurd hD (h _ _)⟩
    obtain ⟨e1, e2⟩ := isD_uniq h hD
    rw [e1, e2]
end Go.GV.YtkkfgajlnpcpcaaGreatDoor
namespace Go.GV.YtkkfgajlnpcpcaaGreatDoor
open Go.Proofs
abbrev risesD (l : List Dy) : Prop := l.Pairwise dyLt
theorem risesD_uniq : ∀ {a b : List Dy}, risesD a → risesD b → (∀ x, x ∈ a ↔ x ∈ b) → a = b
 | [], [], _, _, _ => rfl
 | [], y :: b, _, _, h => by have := (h y).2 List.mem_cons_self; cases this
 | x :: a, [], _, _, h => by have := (h x).1 List.mem_cons_self; cases this
 | x :: a, y :: b, ha, hb, h => by
  have ha := List.pairwise_cons.1 ha
  have hb := List.pairwise_cons.1 hb
  have irr : ∀ q : Dy, ¬ dyLt q q := fun q hq => by unfold dyLt at hq; omega
  have asy : ∀ q r : Dy, dyLt q r → dyLt r q → False := fun q r h g => by unfold dyLt at *; omega
  have e : x = y := by
   have h1 := (h x).1 List.mem_cons_self
   have h2 := (h y).2 List.mem_cons_self
   rcases List.mem_cons.1 h1 with h1 | h1
   ·exact h1
   ·rcases List.mem_cons.1 h2 with h2 | h2
    ·exact h2.symm
    ·exact (asy _ _ (hb.1 x h1) (ha.1 y h2)).elim
  subst e
  rw [risesD_uniq ha.2 hb.2 fun z => ?_]
  have h3 := h z
  simp only [List.mem_cons] at h3
  constructor
  ·intro hz
   rcases h3.1 (.inr hz) with h4 | h4
   ·exact (irr _ (h4 ▸ ha.1 z hz)).elim
   ·exact h4
  ·intro hz
   rcases h3.2 (.inr hz) with h4 | h4
   ·exact (irr _ (h4 ▸ hb.1 z hz)).elim
   ·exact h4
theorem ddT_mem : ∀ (l : List Dy) (p x : Dy), x ∈ ddT p l ∨ x = p ↔ x ∈ l ∨ x = p
 | [], p, x => by simp [ddT]
 | a :: l, p, x => by
  unfold ddT
  have ih := ddT_mem l a x
  by_cases h : a = p
  ·subst h
   rw [if_pos rfl, ih, List.mem_cons]
   constructor
   ·rintro (h | h)
    ·exact .inl (.inr h)
    ·exact .inr h
   ·rintro ((h | h) | h)
    ·exact .inr h
    ·exact .inl h
    ·exact .inr h
  ·rw [if_neg h, List.mem_cons, List.mem_cons]
   constructor
   ·rintro ((h1 | h1) | h1)
    ·exact .inl (.inl h1)
    ·rcases ih.1 (.inl h1) with h2 | h2
     ·exact .inl (.inr h2)
     ·exact .inl (.inl h2)
    ·exact .inr h1
   ·rintro ((h1 | h1) | h1)
    ·exact .inl (.inl h1)
    ·rcases ih.2 (.inl h1) with h2 | h2
     ·exact .inl (.inr h2)
     ·exact .inl (.inl h2)
    ·exact .inr h1
def dyLe (a b : Dy) : Prop := a.1 < b.1 ∨ a.1 = b.1 ∧ a.2.1 ≤ b.2.1
theorem dyLt_of {a b : Dy} (h : dyLe a b) (hne : ¬ b = a) : dyLt a b := by
 obtain ⟨a1, a2, ⟨⟩⟩ := a
 obtain ⟨b1, b2, ⟨⟩⟩ := b
 unfold dyLe at h
 unfold dyLt
 simp only at h ⊢
 by_cases h1 : a1 = b1
 ·by_cases h2 : a2 = b2
  ·exact absurd (by rw [h1, h2]) hne
  ·omega
 ·omega
theorem ddT_rises : ∀ (l : List Dy) (p : Dy), (p :: l).Pairwise dyLe → risesD (p :: ddT p l)
 | [], p, _ => List.pairwise_singleton _ _
 | a :: l, p, h => by
  unfold ddT
  rw [List.pairwise_cons] at h
  have ih := ddT_rises l a h.2
  by_cases he : a = p
  ·subst he; rw [if_pos rfl]; exact ih
  ·rw [if_neg he]
   have hlt : dyLt p a := dyLt_of (h.1 a List.mem_cons_self) he
   refine List.pairwise_cons.2 ⟨fun b hb => ?_, ih⟩
   rcases List.mem_cons.1 hb with rfl | hb
   ·exact hlt
   ·have := (List.pairwise_cons.1 ih).1 b hb
    unfold dyLt at *
    omega
theorem ddT_len : ∀ (l : List Dy) (p : Dy), (ddT p l).length ≤ l.length
 | [], _ => Nat.le_refl _
 | a :: l, p => by
  unfold ddT
  have := ddT_len l a
  split <;> simp <;> omega
theorem sortD_spec {y : List Dy} (hy : y.length ≤ 1000000) (hb : ∀ d ∈ y, -1000000000 ≤ d.1 ∧ d.1 ≤ 1000000000 ∧ 0 ≤ d.2.1 ∧ d.2.1 ≤ 6) :
  ∃ r, slices_SortFunc_api_Day_api_Day.f y () = some (r, (), ()) ∧ r.length = y.length ∧ risesD (ddsT r) ∧ (∀ x, x ∈ ddsT r ↔ x ∈ y) ∧ (ddsT r).length ≤ y.length := by
 have hall : y.all okf89 = true := List.all_eq_true.2 fun d hd => by
  have := hb d hd
  unfold okf89 small
  simp only [Bool.and_eq_true, decide_eq_true_eq]
  omega
 obtain ⟨r, hr⟩ : ∃ r : List Dy, sortB okf89 zf89 cf89 y = some r := by unfold sortB; rw [hall]; exact ⟨_, rfl⟩
 have hp : List.Perm (α := Dy) r y := sortB_perm swo89 hr
 have hso0 : List.Pairwise (α := Dy) (fun a b => ¬ cf89 b a < 0) r := sortB_sorted swo89 hr
 have hso : r.Pairwise dyLe := hso0.imp fun {a b} h => by
  have h2 := lt_diff b.1 b.2.1 a.1 a.2.1
  have h3 : decide (diffCmp b.1 b.2.1 a.1 a.2.1 < 0) = false := decide_eq_false h
  rw [h3] at h2
  have := of_decide_eq_false h2.symm
  unfold dyLe
  omega
 have hf : slices_SortFunc_api_Day_api_Day.f y () = some (r, (), ()) := by
  rw [slices_SortFunc_api_Day_api_Day.f_sem]
  show (bif decide (List.length y ≤ limit) then (sortB okf89 zf89 cf89 y).map (fun ys => (ys, (), ())) else none) = _
  rw [dp (by simp only [limit]; omega), cond_true, hr]
  rfl
 refine ⟨r, hf, hp.length_eq, ?_, fun x => ?_, ?_⟩
 ·cases r with
  | nil => exact List.Pairwise.nil
  | cons a r => exact ddT_rises r a hso
 ·have e : x ∈ ddsT r ↔ x ∈ r := by
   cases r with
   | nil => exact Iff.rfl
   | cons a r =>
    show x ∈ a :: ddT a r ↔ _
    rw [List.mem_cons, List.mem_cons]
    have := ddT_mem r a x
    constructor
    ·rintro (h | h)
     ·exact .inl h
     ·rcases this.1 (.inl h) with h | h
      ·exact .inr h
      ·exact .inl h
    ·rintro (h | h)
     ·exact .inl h
     ·rcases this.2 (.inl h) with h | h
      ·exact .inr h
      ·exact .inl h
  rw [e, hp.mem_iff]
 ·rw [← hp.length_eq]
  cases r with
  | nil => exact Nat.le_refl _
  | cons a r => show (a :: ddT a r).length ≤ _; simp [ddT_len]
def isDy (s : List UInt8) (d : Dy) : Prop := isD s d.1 d.2.1
theorem days_or : ∀ p : List (List UInt8), (∃ ds : List Dy, All2 isDy p ds) ∨ ∃ s ∈ p, ∀ n w, ¬ isD s n w
 | [] => .inl ⟨[], trivial⟩
 | s :: p => by
  by_cases h : ∃ n w, isD s n w
  ·obtain ⟨n, w, hn⟩ := h
   rcases days_or p with ⟨ns, h2⟩ | ⟨t, ht, h2⟩
   ·exact .inl ⟨(n, w, ()) :: ns, hn, h2⟩
   ·exact .inr ⟨t, List.mem_cons_of_mem _ ht, h2⟩
  ·exact .inr ⟨s, List.mem_cons_self, fun n w hn => h ⟨n, w, hn⟩⟩
noncomputable def dayEnd (y : List Dy) : Option (List Dy × Bool × Unit) := bif decide ((y.length : Int) > 60) then (some ([], false, ())) else ((slices_SortFunc_api_Day_api_Day.f y ()).bind fun t3 => (slices_Compact_api_Day_api_Day.f t3.1).bind fun t4 => some (t4.1, true, ()))
theorem dlist_l1 (p : List (List UInt8)) (hp : p.length ≤ 100000) (hpl : ∀ s ∈ p, s.length ≤ 100000) : ∀ (k i : Nat) (y : List Dy), p.length - i = k → i ≤ p.length → y.length ≤ i →
  (∀ ds, All2 isDy (p.drop i) ds → rule_dayList.l1 (p.map mkS) p.length i y = dayEnd (y ++ ds)) ∧ ((∃ s ∈ p.drop i, ∀ n w, ¬ isD s n w) → rule_dayList.l1 (p.map mkS) p.length i y = some ([], false, ())) := by
 have hlim : limit = 17179869184 := rfl
 have hml : (p.map mkS).length = p.length := List.length_map ..
 intro k
 induction k with
 | zero =>
  intro i y hk hi hy
  have e : i = p.length := by omega
  subst e
  rw [rule_dayList.l1_eq, List.drop_length]
  simp (disch := omega) only [ss, cond_true, cond_false, Option.bind_some, hml]
  refine ⟨fun ns hns => ?_, fun ⟨s, hs, _⟩ => by cases hs⟩
  cases ns with
  | nil => rw [List.append_nil]; rfl
  | cons _ _ => exact hns.elim
 | succ k ih =>
  intro i y hk hi hy
  have hlt : i < p.length := by omega
  have hg := gm p i hlt
  rw [rule_dayList.l1_eq, drop_getD' [] hlt]
  rcases day_spec (p.getD i []) (by have := hpl _ (getD_mem' [] hlt); omega) with ⟨n, w, hn, hf⟩ | ⟨hn, d, hf⟩
  ·simp (disch := omega) only [ss, cond_true, cond_false, Option.bind_some, hml, hg, hf, List.length_singleton, hlim]
   obtain ⟨h1, h2⟩ := ih (i + 1) (y ++ [(n, w, ())]) (by omega) (by omega) (by simp; omega)
   refine ⟨fun ns hns => ?_, fun ⟨s, hs, hs2⟩ => ?_⟩
   ·cases ns with
    | nil => exact hns.elim
    | cons m ns =>
     obtain ⟨m1, m2, ⟨⟩⟩ := m
     obtain ⟨e1, e2⟩ := isD_uniq hns.1 hn
     simp only at e1 e2
     subst e1 e2
     refine (h1 ns hns.2).trans ?_
     rw [List.append_assoc]
     rfl
   ·refine h2 ?_
    rcases List.mem_cons.1 hs with rfl | hs
    ·exact absurd hn (hs2 n w)
    ·exact ⟨s, hs, hs2⟩
  ·simp (disch := omega) only [ss, cond_true, cond_false, Option.bind_some, hml, hg, hf]
   refine ⟨fun ns hns => ?_, fun _ => trivial⟩
   cases ns with
   | nil => exact hns.elim
   | cons m ns => exact absurd hns.1 (hn _ _)
def keyD (d : Dy) : Int := 7 * d.1 + d.2.1
noncomputable def vdEnd (y : List Int) : Option (List Dy × Bool × Unit) := (vokref_Sorted.f y).bind fun t9 => vokref4_days.l5 t9.1 0 []
theorem vdlist_l1 (p : List (List UInt8)) (hp : p.length ≤ 100000) (hpl : ∀ s ∈ p, s.length ≤ 100000) : ∀ (k i : Nat) (y : List Int), p.length - i = k → i ≤ p.length → y.length ≤ i →
  (∀ ds, All2 isDy (p.drop i) ds → vokref4_days.l1a (p.map mkS) i y = vdEnd (y ++ ds.map keyD)) ∧ ((∃ s ∈ p.drop i, ∀ n w, ¬ isD s n w) → vokref4_days.l1a (p.map mkS) i y = some ([], false, ())) := by
 have hml : (p.map mkS).length = p.length := List.length_map ..
 intro k
 induction k with
 | zero =>
  intro i y hk hi hy
  have e : i = p.length := by omega
  subst e
  rw [vokref4_days.l1a_eq, List.drop_length]
  simp (disch := omega) only [ss, cond_true, cond_false, Option.bind_some, hml]
  refine ⟨fun ns hns => ?_, fun ⟨s, hs, _⟩ => by cases hs⟩
  cases ns with
  | nil => rw [List.map_nil, List.append_nil]; rfl
  | cons _ _ => exact hns.elim
 | succ k ih =>
  intro i y hk hi hy
  have hlt : i < p.length := by omega
  obtain ⟨g1, g2⟩ := vday_step p hp i hlt (hpl _ (getD_mem' [] hlt)) y hy
  rw [drop_getD' [] hlt]
  by_cases h : ∃ n w, isD (p.getD i []) n w
  ·obtain ⟨n, w, hn⟩ := h
   rw [g1 n w hn]
   obtain ⟨h1, h2⟩ := ih (i + 1) (y ++ [7 * n + w]) (by omega) (by omega) (by simp; omega)
   refine ⟨fun ns hns => ?_, fun ⟨s, hs, hs2⟩ => ?_⟩
   ·cases ns with
    | nil => exact hns.elim
    | cons m ns =>
     obtain ⟨m1, m2, ⟨⟩⟩ := m
     obtain ⟨e1, e2⟩ := isD_uniq hns.1 hn
     simp only at e1 e2
     subst e1 e2
     refine (h1 ns hns.2).trans ?_
     rw [List.append_assoc]
     rfl
   ·refine h2 ?_
    rcases List.mem_cons.1 hs with rfl | hs
    ·exact absurd hn (hs2 n w)
    ·exact ⟨s, hs, hs2⟩
  ·have hn : ∀ n w, ¬ isD (p.getD i []) n w := fun n w hn => h ⟨n, w, hn⟩
   rw [g2 hn]
   refine ⟨fun ns hns => ?_, fun _ => rfl⟩
   cases ns with
   | nil => exact hns.elim
   | cons m ns => exact absurd hns.1 (hn _ _)
def decD (k : Int) : Dy := (k / 7, k % 7, ())
theorem vd_l5 (q : List Int) (hq : q.length ≤ 100000) (hb : ∀ k ∈ q, -10000000000 ≤ k ∧ k ≤ 10000000000) : ∀ (k i : Nat) (y : List Dy), q.length - i = k → i ≤ q.length → y.length ≤ i → vokref4_days.l5 q i y = some (y ++ (q.drop i).map decD, true, ()) := by
 have hlim : limit = 17179869184 := rfl
 intro k
 induction k with
 | zero =>
  intro i y hk hi hy
  have e : i = q.length := by omega
  subst e
  rw [vokref4_days.l5_eq, List.drop_length]
  simp (disch := omega) only [ss, cond_true, cond_false, Option.bind_some]
  simp
 | succ k ih =>
  intro i y hk hi hy
  have hlt : i < q.length := by omega
  have hk2 := hb _ (getD_mem' 0 hlt)
  rw [vokref4_days.l5_eq, drop_getD' 0 hlt]
  simp only [Int.toNat_natCast]
  generalize q.getD i 0 = v at hk2
  have e1 : IntKind.i64.wrap (Int.tmod v 7 + 7) = Int.tmod v 7 + 7 := by
   have h1 := Int.tmod_lt_of_pos v (show (0 : Int) < 7 by omega)
   have h2 := Int.lt_tmod_of_pos v (show (0 : Int) < 7 by omega)
   exact wr (by omega) (by omega)
  have e2 : Int.tmod (Int.tmod v 7 + 7) 7 = v % 7 := by
   by_cases h : 0 ≤ v
   ·rw [Int.tmod_eq_emod_of_nonneg h, Int.tmod_eq_emod_of_nonneg (by omega)]
    omega
   ·have h1 : Int.tmod v 7 = -((-v) % 7) := by
     have : Int.tmod v 7 = -Int.tmod (-v) 7 := by rw [Int.neg_tmod, Int.neg_neg]
     rw [this, Int.tmod_eq_emod_of_nonneg (by omega)]
    rw [h1, Int.tmod_eq_emod_of_nonneg (by omega)]
    omega
  have e3 : Int.tdiv (v - v % 7) 7 = v / 7 := by
   have : v - v % 7 = (v / 7) * 7 := by omega
   rw [this]
   exact Int.mul_tdiv_cancel _ (by omega)
  have e4 : IntKind.i64.wrap (v - v % 7) = v - v % 7 := wr (by omega) (by omega)
  have e5 : IntKind.i64.wrap (v / 7) = v / 7 := wr (by omega) (by omega)
  rw [e1, e2, e4, e3, e5]
  simp (disch := omega) only [ss, cond_true, cond_false, Option.bind_some, List.length_singleton, hlim]
  refine (ih (i + 1) (y ++ [(v / 7, v % 7, ())]) (by omega) (by omega) (by simp; omega)).trans ?_
  rw [List.append_assoc]
  rfl
def isDL (v : List UInt8) (r : List Dy) : Prop := (risesD r ∧ r.length ≤ 60) ∧ ∃ ds, All2 isDy (segs 44 v) ds ∧ ds.length ≤ 60 ∧ ∀ x, x ∈ r ↔ x ∈ ds
theorem all_bd : ∀ {p : List (List UInt8)} {ds : List Dy}, All2 isDy p ds → ∀ d ∈ ds, -1000000000 ≤ d.1 ∧ d.1 ≤ 1000000000 ∧ 0 ≤ d.2.1 ∧ d.2.1 ≤ 6
 | [], [], _, d, hd => by cases hd
 | s :: p, x :: ds, h, d, hd => by
  rcases List.mem_cons.1 hd with rfl | hd
  ·have := isD_bd h.1
   omega
  ·exact all_bd h.2 d hd
 | [], _ :: _, h, _, _ => h.elim
 | _ :: _, [], h, _, _ => h.elim
theorem dayList_spec (v : List UInt8) (hv : v.length ≤ 50000) :
  (∃ r, isDL v r ∧ rule_dayList.f (mkS v) = some (r, true, ()) ∧ vokref4_days.f (mkS v) = some (r, true, ())) ∨
  ((∀ r, ¬ isDL v r) ∧ rule_dayList.f (mkS v) = some ([], false, ()) ∧ vokref4_days.f (mkS v) = some ([], false, ())) := by
 have hsl := segs_len 44 v
 have hS : strings_Split.f (mkS v) ⟨#[44]⟩ = some ((segs 44 v).map mkS, ()) := split_one (c := 44) v (by omega)
 have hV : vokref_Split.f (mkS v) 44 = some ((segs 44 v).map mkS, ()) := vsplit_spec 44 v (by omega)
 have hml : ((segs 44 v).map mkS).length = (segs 44 v).length := List.length_map ..
 have h1 := dlist_l1 (segs 44 v) (by omega) (fun s hs => by have := hsl.2 s hs; omega) _ 0 [] rfl (Nat.zero_le _) (Nat.le_refl _)
 have h2 := vdlist_l1 (segs 44 v) (by omega) (fun s hs => by have := hsl.2 s hs; omega) _ 0 [] rfl (Nat.zero_le _) (Nat.le_refl _)
 rw [List.drop_zero, Int.natCast_zero] at h1 h2
 have hf1 : rule_dayList.f (mkS v) = rule_dayList.l1 ((segs 44 v).map mkS) (segs 44 v).length 0 [] := by rw [rule_dayList.f_eq, hS, ← hml]; rfl
 have hf2 : vokref4_days.f (mkS v) = bif decide (((segs 44 v).length : Int) > 60) then some ([], false, ()) else vokref4_days.l1a ((segs 44 v).map mkS) 0 [] := by rw [vokref4_days.f_eq, hV, ← hml, ← vd_l1]; rfl
 rcases days_or (segs 44 v) with ⟨ds, hds⟩ | hbad
 ·have hlen := All2_len hds
  have hbd := all_bd hds
  have e1 := h1.1 ds hds
  have e2 := h2.1 ds hds
  rw [List.nil_append] at e1 e2
  by_cases h60 : (ds.length : Int) > 60
  ·refine .inr ⟨fun r hr => ?_, ?_, ?_⟩
   ·obtain ⟨_, ms, h3, h4, _⟩ := hr
    have := All2_len h3
    omega
   ·rw [hf1, e1]
    unfold dayEnd
    simp (disch := omega) only [ss, cond_true, cond_false, Option.bind_some]
   ·rw [hf2]
    simp (disch := omega) only [ss, cond_true, cond_false, Option.bind_some]
  ·obtain ⟨r, h3, h4, h5, h6, h6l⟩ := sortD_spec (y := ds) (by omega) hbd
   have hkl : (ds.map keyD).length = ds.length := List.length_map ..
   obtain ⟨q, h7, h8, h9⟩ := Sorted_spec (ds.map keyD) (by omega)
   have hqb : ∀ k ∈ q, -10000000000 ≤ k ∧ k ≤ 10000000000 := fun k hk => by
    obtain ⟨d, hd, rfl⟩ := List.mem_map.1 ((h9 k).1 hk)
    have := hbd d hd
    unfold keyD
    omega
   have hdk : ∀ d ∈ ds, decD (keyD d) = d := fun d hd => by
    have := hbd d hd
    obtain ⟨a, b, ⟨⟩⟩ := d
    unfold decD keyD
    simp only at this ⊢
    rw [show (7 * a + b) / 7 = a by omega, show (7 * a + b) % 7 = b by omega]
   have hrq : risesD (q.map decD) := by
    rw [risesD, List.pairwise_map]
    exact h8.imp fun {a b} h => by unfold dyLt decD; simp only; omega
   have hmem : ∀ x, x ∈ q.map decD ↔ x ∈ ds := fun x => by
    rw [List.mem_map]
    constructor
    ·rintro ⟨k, hk, rfl⟩
     obtain ⟨d, hd, rfl⟩ := List.mem_map.1 ((h9 k).1 hk)
     rw [hdk d hd]
     exact hd
    ·intro hx
     exact ⟨keyD x, (h9 _).2 (List.mem_map.2 ⟨x, hx, rfl⟩), hdk x hx⟩
   have e : q.map decD = ddsT r := risesD_uniq hrq h5 fun x => (hmem x).trans (h6 x).symm
   have hql : q.length ≤ 60 := by
    have := congrArg List.length e
    rw [List.length_map] at this
    omega
   have h10 := vd_l5 q (by omega) hqb _ 0 [] rfl (Nat.zero_le _) (Nat.le_refl _)
   rw [List.drop_zero, List.nil_append, Int.natCast_zero, e] at h10
   refine .inl ⟨ddsT r, ⟨⟨h5, by omega⟩, ds, hds, by omega, h6⟩, ?_, ?_⟩
   ·rw [hf1, e1]
    unfold dayEnd
    simp (disch := omega) only [ss, cond_true, cond_false, Option.bind_some, h3, dcompact_spec r (by omega)]
   ·rw [hf2, e2]
    unfold vdEnd
    simp (disch := omega) only [ss, cond_true, cond_false, Option.bind_some, h7, h10]
 ·refine .inr ⟨fun r hr => ?_, ?_, ?_⟩
  ·obtain ⟨_, ms, h3, _, _⟩ := hr
   obtain ⟨s, hs, hs2⟩ := hbad
   have : ∀ (p : List (List UInt8)) (ms : List Dy), All2 isDy p ms → s ∈ p → ∃ n w, isD s n w := by
    intro p
    induction p with
    | nil => intro ms _ h; cases h
    | cons t p ih =>
     intro ms h hm
     cases ms with
     | nil => exact h.elim
     | cons m ms =>
      rcases List.mem_cons.1 hm with rfl | hm
      ·exact ⟨_, _, h.1⟩
      ·exact ih ms h.2 hm
   obtain ⟨n, w, hn⟩ := this _ ms h3 hs
   exact hs2 n w hn
  ·rw [hf1, h1.2 hbad]
  ·rw [hf2, h2.2 hbad]
   cases decide (((segs 44 v).length : Int) > 60) <;> rfl
end Go.GV.YtkkfgajlnpcpcaaGreatDoor
namespace Go.GV.YtkkfgajlnpcpcaaGreatDoor
open Go.Proofs
def Tells (f : Option (Bool × Unit)) (p : Prop) : Prop := ∃ b, f = some (b, ()) ∧ (b = true ↔ p)
theorem Tells.iff {f : Option (Bool × Unit)} {p q : Prop} (h : Tells f p) (e : p ↔ q) : Tells f q := by
 obtain ⟨b, h1, h2⟩ := h
 exact ⟨b, h1, h2.trans e⟩
theorem Tells.eq {f g : Option (Bool × Unit)} {p : Prop} (h : Tells f p) (k : Tells g p) : f = g := by
 obtain ⟨b, h1, h2⟩ := h
 obtain ⟨c, k1, k2⟩ := k
 have : b = c := by
  cases b <;> cases c <;> simp at h2 k2 <;> first | rfl | exact absurd k2 h2 | exact absurd h2 k2
 rw [h1, k1, this]
def okI (l : List Int) (lo hi : Int) (z : Bool) (j : Nat) : Prop := lo ≤ l.getD j 0 ∧ l.getD j 0 ≤ hi ∧ (l.getD j 0 = 0 → z = true)
def adjI (l : List Int) (j : Nat) : Prop := 0 < j → l.getD (j - 1) 0 < l.getD j 0
theorem within_l1 (l : List Int) (lo hi : Int) (z : Bool) (hl : l.length ≤ 1000000) : ∀ (k i : Nat), l.length - i = k → i ≤ l.length →
  Tells (rule_within.l1 l lo hi z l l.length i) ((∀ j, i ≤ j → j < l.length → okI l lo hi z j ∧ adjI l j) ∧ l.length ≤ 60) := by
 intro k
 induction k with
 | zero =>
  intro i hk hil
  rw [rule_within.l1_eq]
  simp (disch := omega) only [ss, cond_true, cond_false, Option.bind_some]
  refine ⟨_, rfl, ?_⟩
  rw [decide_eq_true_eq]
  exact ⟨fun h => ⟨fun j h1 h2 => by omega, by omega⟩, fun h => by omega⟩
 | succ k ih =>
  intro i hk hil
  have hlt : i < l.length := by omega
  have step : okI l lo hi z i ∧ adjI l i → Tells (rule_within.l2 l lo hi z l l.length i false) ((∀ j, i ≤ j → j < l.length → okI l lo hi z j ∧ adjI l j) ∧ l.length ≤ 60) := fun h => by
   rw [rule_within.l2_eq]
   simp (disch := omega) only [ss, cond_true, cond_false, Option.bind_some]
   refine (ih (i + 1) (by omega) (by omega)).iff ⟨fun q => ⟨fun j h1 h2 => ?_, q.2⟩, fun q => ⟨fun j h1 h2 => q.1 j (by omega) h2, q.2⟩⟩
   by_cases e : j = i
   ·subst e; exact h
   ·exact q.1 j (by omega) h2
  have stop : ¬ (okI l lo hi z i ∧ adjI l i) → Tells (rule_within.l2 l lo hi z l l.length i true) ((∀ j, i ≤ j → j < l.length → okI l lo hi z j ∧ adjI l j) ∧ l.length ≤ 60) := fun h => by
   rw [rule_within.l2_eq, cond_true]
   exact ⟨false, rfl, by simp; intro q; exact absurd (q i (Nat.le_refl _) hlt) h⟩
  have last : okI l lo hi z i → Tells (bif decide ((i : Int) > 0) then (bif decide (0 ≤ (i : Int) - 1) then (rule_within.l2 l lo hi z l l.length i (decide (l.getD i 0 ≤ l.getD (i - 1) 0))) else none) else (rule_within.l2 l lo hi z l l.length i false)) ((∀ j, i ≤ j → j < l.length → okI l lo hi z j ∧ adjI l j) ∧ l.length ≤ 60) := fun h => by
   by_cases h0 : i = 0
   ·simp (disch := omega) only [ss, cond_true, cond_false, Option.bind_some]
    exact step ⟨h, fun q => by omega⟩
   ·simp (disch := omega) only [ss, cond_true, cond_false, Option.bind_some]
    by_cases c : l.getD i 0 ≤ l.getD (i - 1) 0
    ·rw [dp c]
     exact stop fun q => by have := q.2 (by omega); omega
    ·rw [dn c]
     exact step ⟨h, fun _ => by omega⟩
  rw [rule_within.l1_eq]
  simp (disch := omega) only [ss, cond_true, cond_false, Option.bind_some]
  by_cases c1 : l.getD i 0 < lo
  ·rw [dp c1, cond_true]
   exact stop fun q => by have := q.1.1; omega
  ·by_cases c2 : l.getD i 0 > hi
   ·rw [dn c1, dp c2, cond_false, cond_true]
    exact stop fun q => by have := q.1.2.1; omega
   ·rw [dn c1, dn c2, cond_false, cond_false]
    by_cases c3 : l.getD i 0 = 0
    ·rw [dp c3, cond_true]
     cases z with
     | false =>
      exact stop fun q => by have := q.1.2.2 c3; cases this
     | true => exact last ⟨by omega, by omega, fun _ => rfl⟩
    ·rw [dn c3, cond_false]
     exact last ⟨by omega, by omega, fun q => absurd q c3⟩
def wi (l : List Int) (lo hi : Int) (z : Bool) : Prop := (∀ j, j < l.length → okI l lo hi z j ∧ adjI l j) ∧ l.length ≤ 60
theorem within_spec (l : List Int) (lo hi : Int) (z : Bool) (hl : l.length ≤ 1000000) : Tells (rule_within.f l lo hi z) (wi l lo hi z) := by
 have := within_l1 l lo hi z hl _ 0 rfl (Nat.zero_le _)
 rw [Int.natCast_zero] at this
 rw [rule_within.f_eq]
 exact this.iff ⟨fun h => ⟨fun j h2 => h.1 j (Nat.zero_le _) h2, h.2⟩, fun h => ⟨fun j _ h2 => h.1 j h2, h.2⟩⟩
theorem vrises_l1 (l : List Int) (hl : l.length ≤ 1000000) : ∀ (k i : Nat), l.length - i = k → 0 < i → Tells (vokref_Rises.l1 l i) (∀ j, i ≤ j → j < l.length → adjI l j) := by
 intro k
 induction k with
 | zero =>
  intro i hk hil
  rw [vokref_Rises.l1_eq]
  by_cases hlt : i < l.length
  ·omega
  ·simp (disch := omega) only [ss, cond_true, cond_false, Option.bind_some]
   exact ⟨true, rfl, by simp; intro j h1 h2; omega⟩
 | succ k ih =>
  intro i hk hil
  have hlt : i < l.length := by omega
  have w1 : IntKind.i64.wrap ((i : Int) - 1) = ((i - 1 : Nat) : Int) := wr_sub1 (by omega) (by omega)
  rw [vokref_Rises.l1_eq]
  simp (disch := omega) only [ss, cond_true, cond_false, Option.bind_some, w1]
  by_cases c : l.getD i 0 ≤ l.getD (i - 1) 0
  ·rw [dp c, cond_true]
   exact ⟨false, rfl, by simp; exact ⟨i, Nat.le_refl _, hlt, fun q => by have := q hil; omega⟩⟩
  ·rw [dn c, cond_false]
   refine (ih (i + 1) (by omega) (by omega)).iff ⟨fun q j h1 h2 => ?_, fun q j h1 h2 => q j (by omega) h2⟩
   by_cases e : j = i
   ·subst e; intro _; omega
   ·exact q j (by omega) h2
theorem vrises_spec (l : List Int) (hl : l.length ≤ 1000000) : Tells (vokref_Rises.f l) (∀ j, j < l.length → adjI l j) := by
 have := vrises_l1 l hl _ 1 rfl (by omega)
 rw [vokref_Rises.f_eq]
 exact this.iff ⟨fun h j h2 h0 => h j (by omega) h2 h0, fun h j _ h2 => h j h2⟩
theorem vwithin_l1 (l : List Int) (lo hi : Int) (z : Bool) (hl : l.length ≤ 1000000) : ∀ (k i : Nat), l.length - i = k → i ≤ l.length →
  Tells (vokref4_within.l1 l lo hi z i) ((∀ j, i ≤ j → j < l.length → okI l lo hi z j) ∧ (∀ j, j < l.length → adjI l j) ∧ l.length ≤ 60) := by
 intro k
 induction k with
 | zero =>
  intro i hk hil
  rw [vokref4_within.l1_eq]
  simp (disch := omega) only [ss, cond_true, cond_false, Option.bind_some]
  by_cases c : (l.length : Int) ≤ 60
  ·obtain ⟨b, h1, h2⟩ := vrises_spec l hl
   simp (disch := omega) only [ss, cond_true, cond_false, Option.bind_some, h1]
   exact ⟨b, rfl, h2.trans ⟨fun q => ⟨fun j h3 h4 => by omega, q, by omega⟩, fun q => q.2.1⟩⟩
  ·simp (disch := omega) only [ss, cond_true, cond_false, Option.bind_some]
   exact ⟨false, rfl, by simp; intro _ _; omega⟩
 | succ k ih =>
  intro i hk hil
  have hlt : i < l.length := by omega
  have step : okI l lo hi z i → Tells (vokref4_within.l2 l lo hi z i false) ((∀ j, i ≤ j → j < l.length → okI l lo hi z j) ∧ (∀ j, j < l.length → adjI l j) ∧ l.length ≤ 60) := fun h => by
   rw [vokref4_within.l2_eq]
   simp (disch := omega) only [ss, cond_true, cond_false, Option.bind_some]
   refine (ih (i + 1) (by omega) (by omega)).iff ⟨fun q => ⟨fun j h1 h2 => ?_, q.2⟩, fun q => ⟨fun j h1 h2 => q.1 j (by omega) h2, q.2⟩⟩
   by_cases e : j = i
   ·subst e; exact h
   ·exact q.1 j (by omega) h2
  have stop : ¬ okI l lo hi z i → Tells (vokref4_within.l2 l lo hi z i true) ((∀ j, i ≤ j → j < l.length → okI l lo hi z j) ∧ (∀ j, j < l.length → adjI l j) ∧ l.length ≤ 60) := fun h => by
   rw [vokref4_within.l2_eq, cond_true]
   exact ⟨false, rfl, by simp; intro q; exact absurd (q i (Nat.le_refl _) hlt) h⟩
  rw [vokref4_within.l1_eq]
  simp (disch := omega) only [ss, cond_true, cond_false, Option.bind_some]
  by_cases c1 : l.getD i 0 < lo
  ·rw [dp c1, cond_true]
   exact stop fun q => by have := q.1; omega
  ·by_cases c2 : l.getD i 0 > hi
   ·rw [dn c1, dp c2, cond_false, cond_true]
    exact stop fun q => by have := q.2.1; omega
   ·rw [dn c1, dn c2, cond_false, cond_false]
    by_cases c3 : l.getD i 0 = 0
    ·rw [dp c3, cond_true]
     cases z with
     | false => exact stop fun q => by have := q.2.2 c3; cases this
     | true => exact step ⟨by omega, by omega, fun _ => rfl⟩
    ·rw [dn c3, cond_false]
     exact step ⟨by omega, by omega, fun q => absurd q c3⟩
theorem vwithin_spec (l : List Int) (lo hi : Int) (z : Bool) (hl : l.length ≤ 1000000) : Tells (vokref4_within.f l lo hi z) (wi l lo hi z) := by
 have := vwithin_l1 l lo hi z hl _ 0 rfl (Nat.zero_le _)
 rw [Int.natCast_zero] at this
 rw [vokref4_within.f_eq]
 exact this.iff ⟨fun h => ⟨fun j h2 => ⟨h.1 j (Nat.zero_le _) h2, h.2.1 j h2⟩, h.2.2⟩, fun h => ⟨fun j _ h2 => (h.1 j h2).1, fun j h2 => (h.1 j h2).2, h.2⟩⟩
def gD (l : List Dy) (j : Nat) : Dy := l.getD j ((0, 0, ()) : Int × Int × Unit)
def okD (l : List Dy) (j : Nat) : Prop := -53 ≤ (gD l j).1 ∧ (gD l j).1 ≤ 53 ∧ 0 ≤ (gD l j).2.1 ∧ (gD l j).2.1 ≤ 6 ∧ (0 < j → dyLt (gD l (j - 1)) (gD l j))
def dwi (l : List Dy) : Prop := (∀ j, j < l.length → okD l j) ∧ l.length ≤ 60
theorem vdl_l1 (l : List Dy) (hl : l.length ≤ 1000000) : ∀ (k i : Nat), l.length - i = k → i ≤ l.length → Tells (vokref4_dayList.l1 l i) ((∀ j, i ≤ j → j < l.length → okD l j) ∧ l.length ≤ 60) := by
 intro k
 induction k with
 | zero =>
  intro i hk hil
  rw [vokref4_dayList.l1_eq]
  simp (disch := omega) only [ss, cond_true, cond_false, Option.bind_some]
  refine ⟨_, rfl, ?_⟩
  rw [decide_eq_true_eq]
  exact ⟨fun h => ⟨fun j h1 h2 => by omega, by omega⟩, fun h => by omega⟩
 | succ k ih =>
  intro i hk hil
  have hlt : i < l.length := by omega
  have step : okD l i → Tells (vokref4_dayList.l2 l i false) ((∀ j, i ≤ j → j < l.length → okD l j) ∧ l.length ≤ 60) := fun h => by
   rw [vokref4_dayList.l2_eq]
   simp (disch := omega) only [ss, cond_true, cond_false, Option.bind_some]
   refine (ih (i + 1) (by omega) (by omega)).iff ⟨fun q => ⟨fun j h1 h2 => ?_, q.2⟩, fun q => ⟨fun j h1 h2 => q.1 j (by omega) h2, q.2⟩⟩
   by_cases e : j = i
   ·subst e; exact h
   ·exact q.1 j (by omega) h2
  have stop : ¬ okD l i → Tells (vokref4_dayList.l2 l i true) ((∀ j, i ≤ j → j < l.length → okD l j) ∧ l.length ≤ 60) := fun h => by
   rw [vokref4_dayList.l2_eq, cond_true]
   exact ⟨false, rfl, by simp; intro q; exact absurd (q i (Nat.le_refl _) hlt) h⟩
  have hg : l.getD i ((0, 0, ()) : Int × Int × Unit) = gD l i := rfl
  have hg1 : l.getD (i - 1) ((0, 0, ()) : Int × Int × Unit) = gD l (i - 1) := rfl
  rw [vokref4_dayList.l1_eq]
  simp (disch := omega) only [ss, cond_true, cond_false, Option.bind_some, hg]
  by_cases c1 : (gD l i).1 < -53
  ·rw [dp c1, cond_true]
   exact stop fun q => by have := q.1; omega
  ·by_cases c2 : (gD l i).1 > 53
   ·rw [dn c1, dp c2, cond_false, cond_true]
    exact stop fun q => by have := q.2.1; omega
   ·by_cases c3 : (gD l i).2.1 < 0
    ·rw [dn c1, dn c2, dp c3, cond_false, cond_false, cond_true]
     exact stop fun q => by have := q.2.2.1; omega
    ·by_cases c4 : (gD l i).2.1 > 6
     ·rw [dn c1, dn c2, dn c3, dp c4, cond_false, cond_false, cond_false, cond_true]
      exact stop fun q => by have := q.2.2.2.1; omega
     ·rw [dn c1, dn c2, dn c3, dn c4, cond_false, cond_false, cond_false, cond_false]
      by_cases h0 : i = 0
      ·simp (disch := omega) only [ss, cond_true, cond_false, Option.bind_some]
       exact step ⟨by omega, by omega, by omega, by omega, fun q => by omega⟩
      ·have w1 : IntKind.i64.wrap ((i : Int) - 1) = ((i - 1 : Nat) : Int) := wr_sub1 (by omega) (by omega)
       simp (disch := omega) only [ss, cond_true, cond_false, Option.bind_some, w1, hg1]
       by_cases c5 : (gD l i).1 < (gD l (i - 1)).1
       ·rw [dp c5, cond_true]
        exact stop fun q => by have := q.2.2.2.2 (by omega); unfold dyLt at this; omega
       ·by_cases c6 : (gD l i).1 = (gD l (i - 1)).1
        ·rw [dn c5, dp c6, cond_false, cond_true]
         by_cases c7 : (gD l i).2.1 ≤ (gD l (i - 1)).2.1
         ·rw [dp c7]
          exact stop fun q => by have := q.2.2.2.2 (by omega); unfold dyLt at this; omega
         ·rw [dn c7]
          exact step ⟨by omega, by omega, by omega, by omega, fun _ => by unfold dyLt; omega⟩
        ·rw [dn c5, dn c6, cond_false, cond_false]
         exact step ⟨by omega, by omega, by omega, by omega, fun _ => by unfold dyLt; omega⟩
theorem vdl_spec (l : List Dy) (hl : l.length ≤ 1000000) : Tells (vokref4_dayList.f l) (dwi l) := by
 have := vdl_l1 l hl _ 0 rfl (Nat.zero_le _)
 rw [Int.natCast_zero] at this
 rw [vokref4_dayList.f_eq]
 exact this.iff ⟨fun h => ⟨fun j h2 => h.1 j (Nat.zero_le _) h2, h.2⟩, fun h => ⟨fun j _ h2 => h.1 j h2, h.2⟩⟩
theorem vnumb_spec (l : List Dy) (hl : l.length ≤ 1000000) : Tells (vokref4_numbered.f l) (∃ j, j < l.length ∧ (gD l j).1 ≠ 0) := by
 have key : ∀ (k i : Nat), l.length - i = k → i ≤ l.length → Tells (vokref4_numbered.l1 l i) (∃ j, i ≤ j ∧ j < l.length ∧ (gD l j).1 ≠ 0) := by
  intro k
  induction k with
  | zero =>
   intro i hk hil
   rw [vokref4_numbered.l1_eq]
   simp (disch := omega) only [ss, cond_true, cond_false, Option.bind_some]
   exact ⟨false, rfl, by simp; intro j h1 h2; omega⟩
  | succ k ih =>
   intro i hk hil
   have hlt : i < l.length := by omega
   have hg : l.getD i ((0, 0, ()) : Int × Int × Unit) = gD l i := rfl
   rw [vokref4_numbered.l1_eq]
   simp (disch := omega) only [ss, cond_true, cond_false, Option.bind_some, hg]
   by_cases c : (gD l i).1 = 0
   ·rw [dp c]
    simp (disch := omega) only [ss, cond_true, cond_false, Option.bind_some]
    refine (ih (i + 1) (by omega) (by omega)).iff ⟨fun ⟨j, h1, h2, h3⟩ => ⟨j, by omega, h2, h3⟩, fun ⟨j, h1, h2, h3⟩ => ⟨j, ?_, h2, h3⟩⟩
    by_cases e : j = i
    ·subst e; exact absurd c h3
    ·omega
   ·rw [dn c]
    simp (disch := omega) only [ss, cond_true, cond_false, Option.bind_some]
    exact ⟨true, rfl, by simp; exact ⟨i, Nat.le_refl _, hlt, c⟩⟩
 have := key _ 0 rfl (Nat.zero_le _)
 rw [Int.natCast_zero] at this
 rw [vokref4_numbered.f_eq]
 exact this.iff ⟨fun ⟨j, _, h⟩ => ⟨j, h⟩, fun ⟨j, h⟩ => ⟨j, Nat.zero_le _, h⟩⟩
end Go.GV.YtkkfgajlnpcpcaaGreatDoor
namespace Go.GV.YtkkfgajlnpcpcaaGreatDoor
open Go.Proofs
abbrev Rl := Int × Int × Int × Int × Int × Bool × List Int × List Int × List Int × List Int × List Dy × List Int × List Int × List Int × List Int × Unit
def Gate (f : Option (Bool × Unit)) (p : Prop) (K : Option (Bool × Unit)) : Prop := (p → f = K) ∧ (¬ p → f = some (false, ()))
theorem Gate.iff {f K : Option (Bool × Unit)} {p q : Prop} (h : Gate f p K) (e : p ↔ q) : Gate f q K := ⟨fun x => h.1 (e.2 x), fun x => h.2 fun y => x (e.1 y)⟩
theorem Gate.eq {f g K : Option (Bool × Unit)} {p : Prop} (h : Gate f p K) (k : Gate g p K) : f = g := by
 by_cases hp : p
 ·rw [h.1 hp, k.1 hp]
 ·rw [h.2 hp, k.2 hp]
theorem gate_and {f g K : Option (Bool × Unit)} {p q : Prop} (h : Tells f p) (k : Gate g q K) : Gate (f.bind fun t => bif !t.1 then some (false, ()) else g) (p ∧ q) K := by
 obtain ⟨b, h1, h2⟩ := h
 rw [h1]
 simp only [Option.bind_some]
 cases b with
 | true => exact ⟨fun x => k.1 x.2, fun x => k.2 fun y => x ⟨h2.1 rfl, y⟩⟩
 | false => exact ⟨fun x => absurd (h2.2 x.1) (by simp), fun _ => rfl⟩
theorem tells_and {f g : Option (Bool × Unit)} {p q : Prop} (h : Tells f p) (k : Tells g q) : Tells (f.bind fun t => bif t.1 then g else some (false, ())) (p ∧ q) := by
 obtain ⟨b, h1, h2⟩ := h
 obtain ⟨c, k1, k2⟩ := k
 rw [h1]
 simp only [Option.bind_some]
 cases b with
 | true => rw [cond_true]; exact ⟨c, k1, ⟨fun x => ⟨h2.1 rfl, k2.1 x⟩, fun x => k2.2 x.2⟩⟩
 | false => exact ⟨false, rfl, ⟨fun x => by simp at x, fun x => absurd (h2.2 x.1) (by simp)⟩⟩
theorem tells_last {f : Option (Bool × Unit)} {p : Prop} (h : Tells f p) : Tells (f.bind fun t => some (t.1, ())) p := by
 obtain ⟨b, h1, h2⟩ := h
 exact ⟨b, by rw [h1]; rfl, h2⟩
def numd (f : Int) (we : List Int) (l : List Dy) (j : Nat) : Prop := (gD l j).1 ≠ 0 → f = 2 ∨ f = 1 ∧ we.length = 0
section
variable (f iv ct un wk : Int) (en : Bool) (mo we yd md : List Int) (dy : List Dy) (ho mi se po : List Int)
theorem mdays_l1 (hl : dy.length ≤ 1000000) (hw : we.length ≤ 1000000) : ∀ (k i : Nat), dy.length - i = k → i ≤ dy.length → (∀ j, j < i → okD dy j) →
  Tells (rule_mayDays.l1 dy dy.length i f iv ct un wk en mo we yd md dy ho mi se po) ((∀ j, i ≤ j → j < dy.length → okD dy j ∧ numd f we dy j) ∧ dy.length ≤ 60) := by
 intro k
 induction k with
 | zero =>
  intro i hk hil hpre
  rw [rule_mayDays.l1_eq]
  simp (disch := omega) only [ss, cond_true, cond_false, Option.bind_some]
  refine ⟨_, rfl, ?_⟩
  rw [decide_eq_true_eq]
  exact ⟨fun h => ⟨fun j h1 h2 => by omega, by omega⟩, fun h => by omega⟩
 | succ k ih =>
  intro i hk hil hpre
  have hlt : i < dy.length := by omega
  have hg : dy.getD i ((0, 0, ()) : Int × Int × Unit) = gD dy i := rfl
  have hg1 : dy.getD (i - 1) ((0, 0, ()) : Int × Int × Unit) = gD dy (i - 1) := rfl
  have stop : ¬ (okD dy i ∧ numd f we dy i) → Tells (some (false, ())) ((∀ j, i ≤ j → j < dy.length → okD dy j ∧ numd f we dy j) ∧ dy.length ≤ 60) := fun h =>
   ⟨false, rfl, by simp; intro q; exact absurd (q i (Nat.le_refl _) hlt) h⟩
  have go : okD dy i → numd f we dy i → Tells (rule_mayDays.l3 dy dy.length i false f iv ct un wk en mo we yd md dy ho mi se po) ((∀ j, i ≤ j → j < dy.length → okD dy j ∧ numd f we dy j) ∧ dy.length ≤ 60) := fun h h' => by
   rw [rule_mayDays.l3_eq]
   simp (disch := omega) only [ss, cond_true, cond_false, Option.bind_some]
   refine (ih (i + 1) (by omega) (by omega) fun j hj => ?_).iff ⟨fun q => ⟨fun j h1 h2 => ?_, q.2⟩, fun q => ⟨fun j h1 h2 => q.1 j (by omega) h2, q.2⟩⟩
   ·by_cases e : j = i
    ·subst e; exact h
    ·exact hpre j (by omega)
   ·by_cases e : j = i
    ·subst e; exact ⟨h, h'⟩
    ·exact q.1 j (by omega) h2
  have l3t : rule_mayDays.l3 dy dy.length i true f iv ct un wk en mo we yd md dy ho mi se po = some (false, ()) := by rw [rule_mayDays.l3_eq, cond_true]
  have bad : ∀ a b, ¬ okD dy i → Tells (rule_mayDays.l2 dy dy.length i true f iv ct un wk en mo we yd md dy ho mi se po a b) ((∀ j, i ≤ j → j < dy.length → okD dy j ∧ numd f we dy j) ∧ dy.length ≤ 60) := fun a b h => by
   rw [rule_mayDays.l2_eq, cond_true]
   exact stop fun q => h q.1
  have good : okD dy i → Tells (rule_mayDays.l2 dy dy.length i false f iv ct un wk en mo we yd md dy ho mi se po (gD dy i).1 (gD dy i).2.1) ((∀ j, i ≤ j → j < dy.length → okD dy j ∧ numd f we dy j) ∧ dy.length ≤ 60) := fun h => by
   rw [rule_mayDays.l2_eq, cond_false]
   by_cases c1 : (gD dy i).1 = 0
   ·simp (disch := omega) only [ss, cond_true, cond_false, Option.bind_some]
    exact go h fun q => absurd c1 q
   ·by_cases c2 : f = 2
    ·simp (disch := omega) only [ss, cond_true, cond_false, Option.bind_some]
     exact go h fun _ => .inl c2
    ·by_cases c3 : f = 1
     ·by_cases c4 : (we.length : Int) > 0
      ·simp (disch := omega) only [ss, cond_true, cond_false, Option.bind_some, l3t]
       exact stop fun q => by rcases q.2 c1 with q | q <;> omega
      ·simp (disch := omega) only [ss, cond_true, cond_false, Option.bind_some]
       exact go h fun _ => .inr ⟨c3, by omega⟩
     ·simp (disch := omega) only [ss, cond_true, cond_false, Option.bind_some, l3t]
      exact stop fun q => by rcases q.2 c1 with q | q <;> omega
  rw [rule_mayDays.l1_eq]
  simp (disch := omega) only [ss, cond_true, cond_false, Option.bind_some, hg]
  by_cases c1 : (gD dy i).1 < -53
  ·rw [dp c1, cond_true]
   exact bad _ _ fun q => by have := q.1; omega
  ·by_cases c2 : (gD dy i).1 > 53
   ·rw [dn c1, dp c2, cond_false, cond_true]
    exact bad _ _ fun q => by have := q.2.1; omega
   ·by_cases c3 : (gD dy i).2.1 < 0
    ·rw [dn c1, dn c2, dp c3, cond_false, cond_false, cond_true]
     exact bad _ _ fun q => by have := q.2.2.1; omega
    ·by_cases c4 : (gD dy i).2.1 > 6
     ·rw [dn c1, dn c2, dn c3, dp c4, cond_false, cond_false, cond_false, cond_true]
      exact bad _ _ fun q => by have := q.2.2.2.1; omega
     ·rw [dn c1, dn c2, dn c3, dn c4, cond_false, cond_false, cond_false, cond_false]
      by_cases h0 : i = 0
      ·simp (disch := omega) only [ss, cond_true, cond_false, Option.bind_some]
       exact good ⟨by omega, by omega, by omega, by omega, fun q => by omega⟩
      ·have hp := hpre (i - 1) (by omega)
       have b1 := hp.1
       have b2 := hp.2.1
       have b3 := hp.2.2.1
       have b4 := hp.2.2.2.1
       simp (disch := omega) only [ss, cond_true, cond_false, Option.bind_some, hg1, rule_order.f_eq]
       by_cases c6 : (gD dy (i - 1)).1 = (gD dy i).1
       ·simp (disch := omega) only [ss, cond_true, cond_false, Option.bind_some]
        by_cases c7 : (gD dy (i - 1)).2.1 - (gD dy i).2.1 ≥ 0
        ·rw [dp c7]
         exact bad _ _ fun q => by have := q.2.2.2.2 (by omega); unfold dyLt at this; omega
        ·rw [dn c7]
         exact good ⟨by omega, by omega, by omega, by omega, fun _ => by unfold dyLt; omega⟩
       ·simp (disch := omega) only [ss, cond_true, cond_false, Option.bind_some]
        by_cases c7 : (gD dy (i - 1)).1 - (gD dy i).1 ≥ 0
        ·rw [dp c7]
         exact bad _ _ fun q => by have := q.2.2.2.2 (by omega); unfold dyLt at this; omega
        ·rw [dn c7]
         exact good ⟨by omega, by omega, by omega, by omega, fun _ => by unfold dyLt; omega⟩
def listsP : Prop := wi mo 1 12 false ∧ wi we (-53) 53 false ∧ wi yd (-366) 366 false ∧ wi md (-31) 31 false ∧ wi ho 0 23 true ∧ wi mi 0 59 true ∧ wi se 0 59 true ∧ wi po (-366) 366 false ∧ (dwi dy ∧ ∀ j, j < dy.length → numd f we dy j)
def short : Prop := mo.length ≤ 100000 ∧ we.length ≤ 100000 ∧ yd.length ≤ 100000 ∧ md.length ≤ 100000 ∧ dy.length ≤ 100000 ∧ ho.length ≤ 100000 ∧ mi.length ≤ 100000 ∧ se.length ≤ 100000 ∧ po.length ≤ 100000
theorem lists_spec (h : short mo we yd md dy ho mi se po) : Tells (rule_mayLists.f (f, iv, ct, un, wk, en, mo, we, yd, md, dy, ho, mi, se, po, ())) (listsP f mo we yd md dy ho mi se po) := by
 obtain ⟨h1, h2, h3, h4, h5, h6, h7, h8, h9⟩ := h
 have hD := mdays_l1 f iv ct un wk en mo we yd md dy ho mi se po (by omega) (by omega) _ 0 rfl (Nat.zero_le _) fun j hj => by omega
 rw [Int.natCast_zero] at hD
 have hD2 : Tells (rule_mayDays.f (f, iv, ct, un, wk, en, mo, we, yd, md, dy, ho, mi, se, po, ())) (dwi dy ∧ ∀ j, j < dy.length → numd f we dy j) := by
  rw [rule_mayDays.f_eq]
  exact hD.iff ⟨fun q => ⟨⟨fun j hj => (q.1 j (Nat.zero_le _) hj).1, q.2⟩, fun j hj => (q.1 j (Nat.zero_le _) hj).2⟩, fun q => ⟨fun j _ hj => ⟨q.1.1 j hj, q.2 j hj⟩, q.1.2⟩⟩
 rw [rule_mayLists.f_eq]
 exact tells_and (within_spec mo 1 12 false (by omega)) (tells_and (within_spec we (-53) 53 false (by omega)) (tells_and (within_spec yd (-366) 366 false (by omega)) (tells_and (within_spec md (-31) 31 false (by omega)) (tells_and (within_spec ho 0 23 true (by omega)) (tells_and (within_spec mi 0 59 true (by omega)) (tells_and (within_spec se 0 59 true (by omega)) (tells_and (within_spec po (-366) 366 false (by omega)) (tells_last hD2))))))))
def numP : Prop := (1 ≤ f ∧ f ≤ 7 ∧ 1 ≤ iv ∧ iv ≤ 1000 ∧ 0 ≤ ct ∧ ct ≤ 4096 ∧ 0 ≤ wk ∧ wk ≤ 6) ∧ (en = true → (-62135596800 ≤ un ∧ un ≤ 253402300799) ∧ ct = 0) ∧ (en = false → un = 0)
theorem nums_spec : Tells (rule_mayNumbers.f (f, iv, ct, un, wk, en, mo, we, yd, md, dy, ho, mi, se, po, ())) (numP f iv ct un wk en) := by
 have l1t : rule_mayNumbers.l1 true f iv ct un wk en mo we yd md dy ho mi se po = some (false, ()) := by rw [rule_mayNumbers.l1_eq, cond_true]
 have no : ¬ (1 ≤ f ∧ f ≤ 7 ∧ 1 ≤ iv ∧ iv ≤ 1000 ∧ 0 ≤ ct ∧ ct ≤ 4096 ∧ 0 ≤ wk ∧ wk ≤ 6) → Tells (some (false, ())) (numP f iv ct un wk en) := fun h => ⟨false, rfl, ⟨fun q => by simp at q, fun q => absurd q.1 h⟩⟩
 rw [rule_mayNumbers.f_eq]
 dsimp only
 by_cases c : 1 ≤ f ∧ f ≤ 7 ∧ 1 ≤ iv ∧ iv ≤ 1000 ∧ 0 ≤ ct ∧ ct ≤ 4096 ∧ 0 ≤ wk ∧ wk ≤ 6
 ·obtain ⟨c1, c2, c3, c4, c5, c6, c7, c8⟩ := c
  simp (disch := omega) only [ss, cond_true, cond_false, Option.bind_some, rule_mayNumbers.l1_eq, stamp_May.f_eq]
  cases en with
  | true =>
   simp (disch := omega) only [ss, cond_true, cond_false, Option.bind_some]
   by_cases d1 : un ≥ -62135596800
   ·by_cases d2 : un ≤ 253402300799
    ·simp (disch := omega) only [ss, cond_true, cond_false, Option.bind_some]
     refine ⟨_, rfl, ?_⟩
     rw [decide_eq_true_eq]
     exact ⟨fun q => ⟨⟨c1, c2, c3, c4, c5, c6, c7, c8⟩, fun _ => ⟨⟨by omega, d2⟩, q⟩, fun q => by cases q⟩, fun q => (q.2.1 rfl).2⟩
    ·simp (disch := omega) only [ss, cond_true, cond_false, Option.bind_some]
     exact ⟨false, rfl, ⟨fun q => by simp at q, fun q => by have := (q.2.1 rfl).1; omega⟩⟩
   ·simp (disch := omega) only [ss, cond_true, cond_false, Option.bind_some]
    exact ⟨false, rfl, ⟨fun q => by simp at q, fun q => by have := (q.2.1 rfl).1; omega⟩⟩
  | false =>
   simp (disch := omega) only [ss, cond_true, cond_false, Option.bind_some]
   refine ⟨_, rfl, ?_⟩
   rw [decide_eq_true_eq]
   exact ⟨fun q => ⟨⟨c1, c2, c3, c4, c5, c6, c7, c8⟩, (fun q => by cases q), fun _ => q⟩, fun q => q.2.2 rfl⟩
 ·have hb : ∀ {p : Prop} [Decidable p] {x : Option (Bool × Unit)}, (¬ p → Tells x (numP f iv ct un wk en)) → (p → Tells (some (false, ())) (numP f iv ct un wk en)) → Tells (bif decide p then (some (false, ())) else x) (numP f iv ct un wk en) := fun {p} _ {x} h1 h2 => by
   by_cases hp : p
   ·rw [dp hp, cond_true]; exact h2 hp
   ·rw [dn hp, cond_false]; exact h1 hp
  have hn := no c
  rw [l1t]
  refine hb (fun d1 => hb (fun d2 => hb (fun d3 => hb (fun d4 => hb (fun d5 => hb (fun d6 => hb (fun d7 => ?_) fun _ => hn) fun _ => hn) fun _ => hn) fun _ => hn) fun _ => hn) fun _ => hn) fun _ => hn
  have : wk > 6 := by omega
  rw [dp this, l1t]
  exact hn
def mayP : Prop := numP f iv ct un wk en ∧ listsP f mo we yd md dy ho mi se po ∧ (0 < we.length → f = 1) ∧ (0 < yd.length → ¬ (2 ≤ f ∧ f ≤ 4)) ∧ (0 < md.length → f ≠ 3)
theorem may_gate (h : short mo we yd md dy ho mi se po) : Gate (rule_May.f (f, iv, ct, un, wk, en, mo, we, yd, md, dy, ho, mi, se, po, ())) (mayP f iv ct un wk en mo we yd md dy ho mi se po) (rule_May.l5 f iv ct un wk en mo we yd md dy ho mi se po) := by
 have l1t : rule_May.l1 true f iv ct un wk en mo we yd md dy ho mi se po = some (false, ()) := by rw [rule_May.l1_eq, cond_true]
 have l2t : rule_May.l2 true f iv ct un wk en mo we yd md dy ho mi se po = some (false, ()) := by rw [rule_May.l2_eq, cond_true]
 have l3t : rule_May.l3 true f iv ct un wk en mo we yd md dy ho mi se po = some (false, ()) := by rw [rule_May.l3_eq, cond_true]
 have l4t : rule_May.l4 true f iv ct un wk en mo we yd md dy ho mi se po = some (false, ()) := by rw [rule_May.l4_eq, cond_true]
 have l4f : rule_May.l4 false f iv ct un wk en mo we yd md dy ho mi se po = rule_May.l5 f iv ct un wk en mo we yd md dy ho mi se po := by rw [rule_May.l4_eq, cond_false]
 have g3 : Gate (rule_May.l3 false f iv ct un wk en mo we yd md dy ho mi se po) (0 < md.length → f ≠ 3) (rule_May.l5 f iv ct un wk en mo we yd md dy ho mi se po) := by
  rw [rule_May.l3_eq, cond_false]
  by_cases c : (md.length : Int) > 0
  ·rw [dp c, cond_true]
   by_cases c2 : f = 3
   ·rw [dp c2, l4t]
    exact ⟨fun q => absurd c2 (q (by omega)), fun _ => rfl⟩
   ·rw [dn c2, l4f]
    exact ⟨fun _ => rfl, fun q => absurd (fun _ => c2) q⟩
  ·rw [dn c, cond_false, l4f]
   exact ⟨fun _ => rfl, fun q => absurd (fun x => by omega) q⟩
 have g2 : Gate (rule_May.l2 false f iv ct un wk en mo we yd md dy ho mi se po) ((0 < yd.length → ¬ (2 ≤ f ∧ f ≤ 4)) ∧ (0 < md.length → f ≠ 3)) (rule_May.l5 f iv ct un wk en mo we yd md dy ho mi se po) := by
  rw [rule_May.l2_eq, cond_false]
  by_cases c : (yd.length : Int) > 0
  ·rw [dp c, cond_true]
   by_cases c2 : f ≥ 2
   ·rw [dp c2, cond_true]
    by_cases c3 : f ≤ 4
    ·rw [dp c3, l3t]
     exact ⟨fun q => absurd ⟨by omega, c3⟩ (q.1 (by omega)), fun _ => rfl⟩
    ·rw [dn c3]
     exact g3.iff ⟨fun q => ⟨fun _ => by omega, q⟩, fun q => q.2⟩
   ·rw [dn c2, cond_false]
    exact g3.iff ⟨fun q => ⟨fun _ => by omega, q⟩, fun q => q.2⟩
  ·rw [dn c, cond_false]
   exact g3.iff ⟨fun q => ⟨fun x => by omega, q⟩, fun q => q.2⟩
 have g1 : Gate (rule_May.l1 false f iv ct un wk en mo we yd md dy ho mi se po) ((0 < we.length → f = 1) ∧ (0 < yd.length → ¬ (2 ≤ f ∧ f ≤ 4)) ∧ (0 < md.length → f ≠ 3)) (rule_May.l5 f iv ct un wk en mo we yd md dy ho mi se po) := by
  rw [rule_May.l1_eq, cond_false]
  by_cases c : (we.length : Int) > 0
  ·rw [dp c, cond_true]
   by_cases c2 : f = 1
   ·rw [dp c2, Bool.not_true]
    exact g2.iff ⟨fun q => ⟨fun _ => c2, q⟩, fun q => q.2⟩
   ·rw [dn c2, Bool.not_false, l2t]
    exact ⟨fun q => absurd (q.1 (by omega)) c2, fun _ => rfl⟩
  ·rw [dn c, cond_false]
   exact g2.iff ⟨fun q => ⟨fun x => by omega, q⟩, fun q => q.2⟩
 have hL : Gate ((rule_mayLists.f (f, iv, ct, un, wk, en, mo, we, yd, md, dy, ho, mi, se, po, ())).bind fun t2 => rule_May.l1 (!t2.1) f iv ct un wk en mo we yd md dy ho mi se po) (listsP f mo we yd md dy ho mi se po ∧ (0 < we.length → f = 1) ∧ (0 < yd.length → ¬ (2 ≤ f ∧ f ≤ 4)) ∧ (0 < md.length → f ≠ 3)) (rule_May.l5 f iv ct un wk en mo we yd md dy ho mi se po) := by
  have := gate_and (lists_spec f iv ct un wk en mo we yd md dy ho mi se po h) g1
  obtain ⟨b, h1, _⟩ := lists_spec f iv ct un wk en mo we yd md dy ho mi se po h
  rw [h1] at this ⊢
  simp only [Option.bind_some] at this ⊢
  cases b with
  | true => exact this
  | false => rw [Bool.not_false, l1t]; exact this
 rw [rule_May.f_eq]
 have := gate_and (nums_spec f iv ct un wk en mo we yd md dy ho mi se po) hL
 simp only [l1t]
 exact this
end
end Go.GV.YtkkfgajlnpcpcaaGreatDoor
namespace Go.GV.YtkkfgajlnpcpcaaGreatDoor
open Go.Proofs
theorem gate_no {K : Option (Bool × Unit)} {p : Prop} (h : ¬ p) : Gate (some (false, ())) p K := ⟨fun q => absurd q h, fun _ => rfl⟩
theorem wi_one (l : List Int) (hi : Int) (z : Bool) : wi l 1 hi z ↔ wi l 1 hi false := by
 unfold wi
 constructor
 ·exact fun h => ⟨fun j hj => ⟨⟨(h.1 j hj).1.1, (h.1 j hj).1.2.1, fun q => by have := (h.1 j hj).1.1; omega⟩, (h.1 j hj).2⟩, h.2⟩
 ·exact fun h => ⟨fun j hj => ⟨⟨(h.1 j hj).1.1, (h.1 j hj).1.2.1, fun q => by have := (h.1 j hj).1.1; omega⟩, (h.1 j hj).2⟩, h.2⟩
section
variable (f iv ct un wk : Int) (en : Bool) (mo we yd md : List Int) (dy : List Dy) (ho mi se po : List Int)
theorem vgate (h : short mo we yd md dy ho mi se po) : Gate (vokref4_May.f (f, iv, ct, un, wk, en, mo, we, yd, md, dy, ho, mi, se, po, ())) (mayP f iv ct un wk en mo we yd md dy ho mi se po) (vokref4_May.l8 f iv ct un wk en mo we yd md dy ho mi se po) := by
 obtain ⟨h1, h2, h3, h4, h5, h6, h7, h8, h9⟩ := h
 have l1t : vokref4_May.l1 true f iv ct un wk en mo we yd md dy ho mi se po = some (false, ()) := by rw [vokref4_May.l1_eq, cond_true]
 have l2t : vokref4_May.l2 true f iv ct un wk en mo we yd md dy ho mi se po = some (false, ()) := by rw [vokref4_May.l2_eq, cond_true]
 have l2f : vokref4_May.l2 false f iv ct un wk en mo we yd md dy ho mi se po = vokref4_May.l3 f iv ct un wk en mo we yd md dy ho mi se po := by rw [vokref4_May.l2_eq, cond_false]
 have l4t : vokref4_May.l4 true f iv ct un wk en mo we yd md dy ho mi se po = some (false, ()) := by rw [vokref4_May.l4_eq, cond_true]
 have l5t : vokref4_May.l5 true f iv ct un wk en mo we yd md dy ho mi se po = some (false, ()) := by rw [vokref4_May.l5_eq, cond_true]
 have l5f : vokref4_May.l5 false f iv ct un wk en mo we yd md dy ho mi se po = vokref4_May.l6 f iv ct un wk en mo we yd md dy ho mi se po := by rw [vokref4_May.l5_eq, cond_false]
 have l7t : vokref4_May.l7 true f iv ct un wk en mo we yd md dy ho mi se po = some (false, ()) := by rw [vokref4_May.l7_eq, cond_true]
 have l7f : vokref4_May.l7 false f iv ct un wk en mo we yd md dy ho mi se po = vokref4_May.l8 f iv ct un wk en mo we yd md dy ho mi se po := by rw [vokref4_May.l7_eq, cond_false]
 have g6 : Gate (vokref4_May.l6 f iv ct un wk en mo we yd md dy ho mi se po) (∀ j, j < dy.length → numd f we dy j) (vokref4_May.l8 f iv ct un wk en mo we yd md dy ho mi se po) := by
  rw [vokref4_May.l6_eq]
  obtain ⟨b, e1, e2⟩ := vnumb_spec dy (by omega)
  rw [e1]
  simp only [Option.bind_some]
  cases b with
  | false =>
   rw [cond_false, l7f]
   have : ∀ j, j < dy.length → numd f we dy j := fun j hj hn => absurd (e2.2 ⟨j, hj, hn⟩) (by simp)
   exact ⟨fun _ => rfl, fun q => absurd this q⟩
  | true =>
   obtain ⟨j, hj, hn⟩ := e2.1 rfl
   rw [cond_true]
   by_cases c2 : f = 2
   ·simp (disch := omega) only [ss, cond_true, cond_false, Option.bind_some, l7f]
    exact ⟨fun _ => rfl, fun q => absurd (fun _ _ _ => .inl c2) q⟩
   ·by_cases c3 : f = 1
    ·by_cases c4 : (we.length : Int) > 0
     ·simp (disch := omega) only [ss, cond_true, cond_false, Option.bind_some, l7t]
      exact gate_no fun q => by rcases q j hj hn with q | q <;> omega
     ·simp (disch := omega) only [ss, cond_true, cond_false, Option.bind_some, l7f]
      exact ⟨fun _ => rfl, fun q => absurd (fun _ _ _ => .inr ⟨c3, by omega⟩) q⟩
    ·simp (disch := omega) only [ss, cond_true, cond_false, Option.bind_some, l7t]
     exact gate_no fun q => by rcases q j hj hn with q | q <;> omega
 have g4 : Gate (vokref4_May.l4 false f iv ct un wk en mo we yd md dy ho mi se po) (((0 < we.length → f = 1) ∧ (0 < yd.length → ¬ (2 ≤ f ∧ f ≤ 4)) ∧ (0 < md.length → f ≠ 3)) ∧ ∀ j, j < dy.length → numd f we dy j) (vokref4_May.l8 f iv ct un wk en mo we yd md dy ho mi se po) := by
  have hm : ((0 < we.length → f = 1) ∧ (0 < yd.length → ¬ (2 ≤ f ∧ f ≤ 4))) → Gate (bif decide ((md.length : Int) > 0) then (vokref4_May.l5 (decide (f = 3)) f iv ct un wk en mo we yd md dy ho mi se po) else (vokref4_May.l5 false f iv ct un wk en mo we yd md dy ho mi se po)) (((0 < we.length → f = 1) ∧ (0 < yd.length → ¬ (2 ≤ f ∧ f ≤ 4)) ∧ (0 < md.length → f ≠ 3)) ∧ ∀ j, j < dy.length → numd f we dy j) (vokref4_May.l8 f iv ct un wk en mo we yd md dy ho mi se po) := fun hh => by
   by_cases c : (md.length : Int) > 0
   ·rw [dp c, cond_true]
    by_cases c2 : f = 3
    ·rw [dp c2, l5t]
     exact gate_no fun q => q.1.2.2 (by omega) c2
    ·rw [dn c2, l5f]
     exact g6.iff ⟨fun q => ⟨⟨hh.1, hh.2, fun _ => c2⟩, q⟩, fun q => q.2⟩
   ·rw [dn c, cond_false, l5f]
    exact g6.iff ⟨fun q => ⟨⟨hh.1, hh.2, fun x => by omega⟩, q⟩, fun q => q.2⟩
  have hy : (0 < we.length → f = 1) → Gate (bif decide ((yd.length : Int) > 0) then (bif decide (f ≥ 2) then (bif decide (f ≤ 4) then (vokref4_May.l5 true f iv ct un wk en mo we yd md dy ho mi se po) else (bif decide ((md.length : Int) > 0) then (vokref4_May.l5 (decide (f = 3)) f iv ct un wk en mo we yd md dy ho mi se po) else (vokref4_May.l5 false f iv ct un wk en mo we yd md dy ho mi se po))) else (bif decide ((md.length : Int) > 0) then (vokref4_May.l5 (decide (f = 3)) f iv ct un wk en mo we yd md dy ho mi se po) else (vokref4_May.l5 false f iv ct un wk en mo we yd md dy ho mi se po))) else (bif decide ((md.length : Int) > 0) then (vokref4_May.l5 (decide (f = 3)) f iv ct un wk en mo we yd md dy ho mi se po) else (vokref4_May.l5 false f iv ct un wk en mo we yd md dy ho mi se po))) (((0 < we.length → f = 1) ∧ (0 < yd.length → ¬ (2 ≤ f ∧ f ≤ 4)) ∧ (0 < md.length → f ≠ 3)) ∧ ∀ j, j < dy.length → numd f we dy j) (vokref4_May.l8 f iv ct un wk en mo we yd md dy ho mi se po) := fun hh => by
   by_cases c : (yd.length : Int) > 0
   ·rw [dp c, cond_true]
    by_cases c2 : f ≥ 2
    ·rw [dp c2, cond_true]
     by_cases c3 : f ≤ 4
     ·rw [dp c3, cond_true, l5t]
      exact gate_no fun q => q.1.2.1 (by omega) ⟨by omega, c3⟩
     ·rw [dn c3, cond_false]
      exact hm ⟨hh, fun _ => by omega⟩
    ·rw [dn c2, cond_false]
     exact hm ⟨hh, fun _ => by omega⟩
   ·rw [dn c, cond_false]
    exact hm ⟨hh, fun x => by omega⟩
  rw [vokref4_May.l4_eq, cond_false]
  by_cases c : (we.length : Int) > 0
  ·rw [dp c, cond_true]
   by_cases c2 : f = 1
   ·rw [dp c2, Bool.not_true, cond_false]
    exact hy fun _ => c2
   ·rw [dn c2, Bool.not_false, cond_true, l5t]
    exact gate_no fun q => c2 (q.1.1 (by omega))
  ·rw [dn c, cond_false]
   exact hy fun x => by omega
 have g3 : Gate (vokref4_May.l3 f iv ct un wk en mo we yd md dy ho mi se po) (wi mo 1 12 true ∧ wi we (-53) 53 false ∧ wi yd (-366) 366 false ∧ wi md (-31) 31 false ∧ wi po (-366) 366 false ∧ wi ho 0 23 true ∧ wi mi 0 59 true ∧ wi se 0 59 true ∧ dwi dy ∧ (((0 < we.length → f = 1) ∧ (0 < yd.length → ¬ (2 ≤ f ∧ f ≤ 4)) ∧ (0 < md.length → f ≠ 3)) ∧ ∀ j, j < dy.length → numd f we dy j)) (vokref4_May.l8 f iv ct un wk en mo we yd md dy ho mi se po) := by
  have hlast : ∀ {q : Prop}, Gate (vokref4_May.l4 false f iv ct un wk en mo we yd md dy ho mi se po) q (vokref4_May.l8 f iv ct un wk en mo we yd md dy ho mi se po) → Gate ((vokref4_dayList.f dy).bind fun t10 => vokref4_May.l4 (!t10.1) f iv ct un wk en mo we yd md dy ho mi se po) (dwi dy ∧ q) (vokref4_May.l8 f iv ct un wk en mo we yd md dy ho mi se po) := fun {q} hq => by
   have := gate_and (vdl_spec dy (by omega)) hq
   obtain ⟨b, e1, _⟩ := vdl_spec dy (by omega)
   rw [e1] at this ⊢
   simp only [Option.bind_some] at this ⊢
   cases b with
   | true => exact this
   | false => rw [Bool.not_false, l4t]; exact this
  rw [vokref4_May.l3_eq]
  simp only [l4t]
  exact gate_and (vwithin_spec mo 1 12 true (by omega)) (gate_and (vwithin_spec we (-53) 53 false (by omega)) (gate_and (vwithin_spec yd (-366) 366 false (by omega)) (gate_and (vwithin_spec md (-31) 31 false (by omega)) (gate_and (vwithin_spec po (-366) 366 false (by omega)) (gate_and (vwithin_spec ho 0 23 true (by omega)) (gate_and (vwithin_spec mi 0 59 true (by omega)) (gate_and (vwithin_spec se 0 59 true (by omega)) (hlast g4))))))))
 have g3' := g3.iff (q := listsP f mo we yd md dy ho mi se po ∧ (0 < we.length → f = 1) ∧ (0 < yd.length → ¬ (2 ≤ f ∧ f ≤ 4)) ∧ (0 < md.length → f ≠ 3)) (by
  rw [wi_one mo 12 true]
  unfold listsP
  constructor
  ·rintro ⟨a1, a2, a3, a4, a5, a6, a7, a8, a9, a10, a11⟩
   exact ⟨⟨a1, a2, a3, a4, a6, a7, a8, a5, a9, a11⟩, a10⟩
  ·rintro ⟨⟨a1, a2, a3, a4, a6, a7, a8, a5, a9, a11⟩, a10⟩
   exact ⟨a1, a2, a3, a4, a5, a6, a7, a8, a9, a10, a11⟩)
 have no : ¬ numP f iv ct un wk en → Gate (some (false, ())) (mayP f iv ct un wk en mo we yd md dy ho mi se po) (vokref4_May.l8 f iv ct un wk en mo we yd md dy ho mi se po) := fun hn => gate_no fun q => hn q.1
 have yes : numP f iv ct un wk en → Gate (vokref4_May.l3 f iv ct un wk en mo we yd md dy ho mi se po) (mayP f iv ct un wk en mo we yd md dy ho mi se po) (vokref4_May.l8 f iv ct un wk en mo we yd md dy ho mi se po) := fun hn => g3'.iff ⟨fun q => ⟨hn, q⟩, fun q => q.2⟩
 rw [vokref4_May.f_eq]
 dsimp only
 by_cases c : 1 ≤ f ∧ f ≤ 7 ∧ 1 ≤ iv ∧ iv ≤ 1000 ∧ 0 ≤ ct ∧ ct ≤ 4096 ∧ 0 ≤ wk ∧ wk ≤ 6
 ·have c' := c
  obtain ⟨c1, c2, c3, c4, c5, c6, c7, c8⟩ := c
  simp (disch := omega) only [ss, cond_true, cond_false, Option.bind_some, vokref4_May.l1_eq, vokref1_May.f_eq]
  cases en with
  | true =>
   simp (disch := omega) only [ss, cond_true, cond_false, Option.bind_some]
   by_cases d0 : ct > 0
   ·simp (disch := omega) only [ss, cond_true, cond_false, Option.bind_some, l2t]
    exact no fun q => by have := (q.2.1 rfl).2; omega
   ·by_cases d1 : un ≥ -62135596800
    ·by_cases d2 : un < 253402300800
     ·simp (disch := omega) only [ss, cond_true, cond_false, Option.bind_some, l2f]
      exact yes ⟨c', fun _ => ⟨⟨by omega, by omega⟩, by omega⟩, fun q => by cases q⟩
     ·simp (disch := omega) only [ss, cond_true, cond_false, Option.bind_some, l2t]
      exact no fun q => by have := (q.2.1 rfl).1; omega
    ·simp (disch := omega) only [ss, cond_true, cond_false, Option.bind_some, l2t]
     exact no fun q => by have := (q.2.1 rfl).1; omega
  | false =>
   by_cases d0 : un = 0
   ·simp (disch := omega) only [ss, cond_true, cond_false, Option.bind_some, l2f]
    exact yes ⟨c', (fun q => by cases q), fun _ => d0⟩
   ·simp (disch := omega) only [ss, cond_true, cond_false, Option.bind_some, l2t]
    exact no fun q => d0 (q.2.2 rfl)
 ·have hn := no fun q => c q.1
  have hb : ∀ {p : Prop} [Decidable p] {x : Option (Bool × Unit)}, (¬ p → Gate x (mayP f iv ct un wk en mo we yd md dy ho mi se po) (vokref4_May.l8 f iv ct un wk en mo we yd md dy ho mi se po)) → Gate (bif decide p then (some (false, ())) else x) (mayP f iv ct un wk en mo we yd md dy ho mi se po) (vokref4_May.l8 f iv ct un wk en mo we yd md dy ho mi se po) := fun {p} _ {x} h1 => by
   by_cases hp : p
   ·rw [dp hp, cond_true]; exact hn
   ·rw [dn hp, cond_false]; exact h1 hp
  rw [l1t]
  refine hb fun d1 => hb fun d2 => hb fun d3 => hb fun d4 => hb fun d5 => hb fun d6 => hb fun d7 => ?_
  have : wk > 6 := by omega
  rw [dp this, l1t]
  exact hn
theorem tail_same : rule_May.l5 f iv ct un wk en mo we yd md dy ho mi se po = vokref4_May.l8 f iv ct un wk en mo we yd md dy ho mi se po := by
 have e7 : rule_May.l7 f iv ct un wk en mo we yd md dy ho mi se po = vokref4_May.l10 f iv ct un wk en mo we yd md dy ho mi se po := by rw [rule_May.l7_eq, vokref4_May.l10_eq]
 have e6 : ∀ b, rule_May.l6 b f iv ct un wk en mo we yd md dy ho mi se po = vokref4_May.l9 b f iv ct un wk en mo we yd md dy ho mi se po := fun b => by rw [rule_May.l6_eq, vokref4_May.l9_eq, e7]
 rw [rule_May.l5_eq, vokref4_May.l8_eq, e6, e6]
end
theorem may_same (r : Rl) (h : short r.2.2.2.2.2.2.1 r.2.2.2.2.2.2.2.1 r.2.2.2.2.2.2.2.2.1 r.2.2.2.2.2.2.2.2.2.1 r.2.2.2.2.2.2.2.2.2.2.1 r.2.2.2.2.2.2.2.2.2.2.2.1 r.2.2.2.2.2.2.2.2.2.2.2.2.1 r.2.2.2.2.2.2.2.2.2.2.2.2.2.1 r.2.2.2.2.2.2.2.2.2.2.2.2.2.2.1) : rule_May.f r = vokref4_May.f r := by
 obtain ⟨f, iv, ct, un, wk, en, mo, we, yd, md, dy, ho, mi, se, po, ⟨⟩⟩ := r
 have g1 := may_gate f iv ct un wk en mo we yd md dy ho mi se po h
 rw [tail_same] at g1
 exact g1.eq (vgate f iv ct un wk en mo we yd md dy ho mi se po h)
theorem may_some (r : Rl) (h : short r.2.2.2.2.2.2.1 r.2.2.2.2.2.2.2.1 r.2.2.2.2.2.2.2.2.1 r.2.2.2.2.2.2.2.2.2.1 r.2.2.2.2.2.2.2.2.2.2.1 r.2.2.2.2.2.2.2.2.2.2.2.1 r.2.2.2.2.2.2.2.2.2.2.2.2.1 r.2.2.2.2.2.2.2.2.2.2.2.2.2.1 r.2.2.2.2.2.2.2.2.2.2.2.2.2.2.1) : ∃ b, rule_May.f r = some (b, ()) := by
 obtain ⟨f, iv, ct, un, wk, en, mo, we, yd, md, dy, ho, mi, se, po, ⟨⟩⟩ := r
 have g1 := may_gate f iv ct un wk en mo we yd md dy ho mi se po h
 by_cases hp : mayP f iv ct un wk en mo we yd md dy ho mi se po
 ·rw [g1.1 hp, rule_May.l5_eq]
  have e7 : ∃ b, rule_May.l7 f iv ct un wk en mo we yd md dy ho mi se po = some (b, ()) := by
   rw [rule_May.l7_eq]
   cases decide (f > 4) with
   | true => exact ⟨_, rfl⟩
   | false => exact ⟨_, rfl⟩
  have e6 : ∀ c, ∃ b, rule_May.l6 c f iv ct un wk en mo we yd md dy ho mi se po = some (b, ()) := fun c => by
   rw [rule_May.l6_eq]
   cases c with
   | true => exact ⟨_, rfl⟩
   | false => exact e7
  cases decide ((po.length : Int) > 0) with
  | true => exact e6 _
  | false => exact e6 _
 ·exact ⟨false, g1.2 hp⟩
end Go.GV.YtkkfgajlnpcpcaaGreatDoor
namespace Go.GV.YtkkfgajlnpcpcaaGreatDoor
open Go.Proofs
def leapB (y : Int) : Bool := decide (y % 4 = 0) && (!decide (y % 100 = 0) || decide (y % 400 = 0))
def mlen (y m : Int) : Int := if m = 2 then (if leapB y = true then 29 else 28) else if m = 4 ∨ m = 6 ∨ m = 9 ∨ m = 11 then 30 else if 1 ≤ m ∧ m ≤ 12 then 31 else 0
def cumT (m : Int) : Int := if m ≤ 1 then 0 else if m = 2 then 31 else if m = 3 then 59 else if m = 4 then 90 else if m = 5 then 120 else if m = 6 then 151 else if m = 7 then 181 else if m = 8 then 212 else if m = 9 then 243 else if m = 10 then 273 else if m = 11 then 304 else if m = 12 then 334 else 365
def cum (y m : Int) : Int := cumT m + if 3 ≤ m ∧ leapB y = true then 1 else 0
def fst_ (y : Int) : Int := 365 * (y - 1) + (y - 1) / 4 - (y - 1) / 100 + (y - 1) / 400 - 719162
theorem tmn {n : Int} (h : 0 ≤ n) (k : Int) : Int.tmod n k = n % k := Int.tmod_eq_emod_of_nonneg h
theorem tdn {n : Int} (h : 0 ≤ n) (k : Int) : Int.tdiv n k = n / k := Int.tdiv_eq_ediv_of_nonneg h
theorem leap_spec (y : Int) (hy : 0 ≤ y) : civil_Leap.f y = some (leapB y, ()) := by
 rw [civil_Leap.f_eq]
 simp only [tmn hy]
 unfold leapB
 by_cases h1 : y % 4 = 0
 ·by_cases h2 : y % 100 = 0
  ·by_cases h3 : y % 400 = 0
   ·simp (disch := omega) only [ss, cond_true, cond_false, Option.bind_some]
   ·simp (disch := omega) only [ss, cond_true, cond_false, Option.bind_some]
  ·simp (disch := omega) only [ss, cond_true, cond_false, Option.bind_some]
 ·simp (disch := omega) only [ss, cond_true, cond_false, Option.bind_some]
theorem vleap_spec (y : Int) (hy : 0 ≤ y) : vokref1_Leap.f y = some (leapB y, ()) := by
 have := leap_spec y hy
 rw [civil_Leap.f_eq] at this
 rw [vokref1_Leap.f_eq]
 exact this
theorem length_spec (y m : Int) (hy : 0 ≤ y) : civil_Length.f y m = some (mlen y m, ()) := by
 have hL := leap_spec y hy
 rw [civil_Length.f_eq]
 unfold mlen
 by_cases h2 : m = 2
 ·subst h2
  simp (disch := omega) only [ss, cond_true, cond_false, Option.bind_some, civil_Length.l1_eq, hL]
  cases leapB y <;> rfl
 ·rw [if_neg h2]
  by_cases h4 : m = 4 ∨ m = 6 ∨ m = 9 ∨ m = 11
  ·rw [if_pos h4]
   rcases h4 with rfl | rfl | rfl | rfl
   all_goals (simp (disch := omega) only [ss, cond_true, cond_false, Option.bind_some, civil_Length.l1_eq])
  ·rw [if_neg h4]
   by_cases hr : 1 ≤ m ∧ m ≤ 12
   ·rw [if_pos hr]
    have : m = 1 ∨ m = 3 ∨ m = 5 ∨ m = 7 ∨ m = 8 ∨ m = 10 ∨ m = 12 := by omega
    rcases this with rfl | rfl | rfl | rfl | rfl | rfl | rfl
    all_goals (simp (disch := omega) only [ss, cond_true, cond_false, Option.bind_some, civil_Length.l1_eq, civil_Length.l2_eq])
   ·rw [if_neg hr]
    simp (disch := omega) only [ss, cond_true, cond_false, Option.bind_some, civil_Length.l1_eq, civil_Length.l2_eq]
theorem vlength_spec (y m : Int) (hy : 0 ≤ y) : vokref1_Length.f y m = some (mlen y m, ()) := by
 have hL := vleap_spec y hy
 rw [vokref1_Length.f_eq]
 unfold mlen
 by_cases h2 : m = 2
 ·subst h2
  simp (disch := omega) only [ss, cond_true, cond_false, Option.bind_some, vokref1_Length.l1_eq, vokref1_Length.l2_eq, hL]
  cases leapB y <;> rfl
 ·rw [if_neg h2]
  by_cases h4 : m = 4 ∨ m = 6 ∨ m = 9 ∨ m = 11
  ·rw [if_pos h4]
   rcases h4 with rfl | rfl | rfl | rfl
   all_goals (simp (disch := omega) only [ss, cond_true, cond_false, Option.bind_some, vokref1_Length.l1_eq, vokref1_Length.l2_eq])
  ·rw [if_neg h4]
   by_cases hr : 1 ≤ m ∧ m ≤ 12
   ·rw [if_pos hr]
    have : m = 1 ∨ m = 3 ∨ m = 5 ∨ m = 7 ∨ m = 8 ∨ m = 10 ∨ m = 12 := by omega
    rcases this with rfl | rfl | rfl | rfl | rfl | rfl | rfl
    all_goals (simp (disch := omega) only [ss, cond_true, cond_false, Option.bind_some, vokref1_Length.l1_eq])
   ·rw [if_neg hr]
    simp (disch := omega) only [ss, cond_true, cond_false, Option.bind_some, vokref1_Length.l1_eq, vokref1_Length.l2_eq]
theorem mlen_bd (y m : Int) : 0 ≤ mlen y m ∧ mlen y m ≤ 31 ∧ (0 < mlen y m → 1 ≤ m ∧ m ≤ 12) := by
 unfold mlen
 split
 ·cases leapB y <;> (simp; omega)
 ·split
  ·omega
  ·split <;> omega
theorem cum_succ (y m : Int) (h1 : 1 ≤ m) (h2 : m ≤ 12) : cum y (m + 1) = cum y m + mlen y m := by
 have : m = 1 ∨ m = 2 ∨ m = 3 ∨ m = 4 ∨ m = 5 ∨ m = 6 ∨ m = 7 ∨ m = 8 ∨ m = 9 ∨ m = 10 ∨ m = 11 ∨ m = 12 := by omega
 unfold cum mlen cumT
 cases leapB y <;> (rcases this with rfl | rfl | rfl | rfl | rfl | rfl | rfl | rfl | rfl | rfl | rfl | rfl <;> simp)
theorem cum_bd (y m : Int) : 0 ≤ cum y m ∧ cum y m ≤ 366 := by
 unfold cum cumT
 split <;> (try split) <;> (repeat' split) <;> omega
def validB (y m d : Int) : Bool := decide (1 ≤ y) && decide (y ≤ 9999) && decide (1 ≤ d) && decide (d ≤ mlen y m)
theorem valid_spec (y m d : Int) : civil_Valid.f y m d = some (validB y m d, ()) ∧ vokref1_Valid.f y m d = some (validB y m d, ()) := by
 rw [civil_Valid.f_eq, civil_year.f_eq, vokref1_Valid.f_eq]
 unfold validB
 by_cases h1 : 1 ≤ y
 ·have hL := length_spec y m (by omega)
  have hV := vlength_spec y m (by omega)
  by_cases h2 : y ≤ 9999
  ·by_cases h3 : 1 ≤ d
   ·simp (disch := omega) only [ss, cond_true, cond_false, Option.bind_some, hL, hV, ge_iff_le]
    exact ⟨trivial, trivial⟩
   ·simp (disch := omega) only [ss, cond_true, cond_false, Option.bind_some, hL, hV, ge_iff_le]
    exact ⟨trivial, trivial⟩
  ·simp (disch := omega) only [ss, cond_true, cond_false, Option.bind_some, ge_iff_le]
   exact ⟨trivial, trivial⟩
 ·simp (disch := omega) only [ss, cond_true, cond_false, Option.bind_some, ge_iff_le]
  exact ⟨trivial, trivial⟩
theorem number_civil (y m d : Int) (hy : 1 ≤ y) (hy2 : y ≤ 10000) (hm : 1 ≤ m) (hm2 : m ≤ 12) (hd : 1 ≤ d) (hd2 : d ≤ 31) : civil_number.f y m d = some (fst_ y + d - 1 + cum y m, ()) := by
 rw [civil_number.f_eq]
 by_cases h3 : m < 3
 ·simp (disch := omega) only [ss, cond_true, cond_false, Option.bind_some, tdn (show 0 ≤ y - 1 + 400 by omega), tdn (show 0 ≤ 153 * (m + 12 - 3) + 2 by omega)]
  congr 2
  unfold fst_ cum cumT
  have : m = 1 ∨ m = 2 := by omega
  rcases this with rfl | rfl
  ·simp
   omega
  ·simp
   omega
 ·simp (disch := omega) only [ss, cond_true, cond_false, Option.bind_some, tdn (show 0 ≤ y + 400 by omega), tdn (show 0 ≤ 153 * (m - 3) + 2 by omega)]
  congr 2
  unfold fst_ cum cumT
  have e : (if 3 ≤ m ∧ leapB y = true then (1 : Int) else 0) = y / 4 - (y - 1) / 4 - (y / 100 - (y - 1) / 100) + (y / 400 - (y - 1) / 400) := by
   unfold leapB
   by_cases h1 : y % 4 = 0
   ·by_cases h2 : y % 100 = 0
    ·by_cases h5 : y % 400 = 0
     ·rw [if_pos ⟨by omega, by simp [h1, h2, h5]⟩]; omega
     ·rw [if_neg (by simp [h1, h2, h5])]; omega
    ·rw [if_pos ⟨by omega, by simp [h1, h2]⟩]; omega
   ·rw [if_neg (by simp [h1])]; omega
  rw [e]
  have : m = 3 ∨ m = 4 ∨ m = 5 ∨ m = 6 ∨ m = 7 ∨ m = 8 ∨ m = 9 ∨ m = 10 ∨ m = 11 ∨ m = 12 := by omega
  rcases this with rfl | rfl | rfl | rfl | rfl | rfl | rfl | rfl | rfl | rfl
  all_goals (simp; omega)
theorem down_spec (n k : Int) (hn : 0 ≤ n) (hn2 : n ≤ 1000000) (hk : 0 < k) (hk2 : k ≤ 1000) : vokref1_down.f n k = some (n / k, ()) := by
 have h1 : 0 ≤ n % k := Int.emod_nonneg n (by omega)
 have h2 : 0 ≤ n / k := Int.ediv_nonneg hn (by omega)
 have h3 : n / k ≤ n := Int.ediv_le_self k hn
 rw [vokref1_down.f_eq, tmn hn, tdn hn]
 simp (disch := omega) only [ss, cond_true, cond_false, Option.bind_some]
theorem first_spec (y : Int) (hy : 1 ≤ y) (hy2 : y ≤ 10001) : vokref1_first.f y = some (fst_ y, ()) := by
 rw [vokref1_first.f_eq]
 have hw : IntKind.i64.wrap (y - 1) = y - 1 := wr (by omega) (by omega)
 rw [hw, down_spec (y - 1) 4 (by omega) (by omega) (by omega) (by omega), down_spec (y - 1) 100 (by omega) (by omega) (by omega) (by omega), down_spec (y - 1) 400 (by omega) (by omega) (by omega) (by omega)]
 simp (disch := omega) only [ss, cond_true, cond_false, Option.bind_some]
 rfl
theorem fst_bd (y : Int) (hy : 1 ≤ y) (hy2 : y ≤ 10001) : -1000000 ≤ fst_ y ∧ fst_ y ≤ 4000000 := by
 unfold fst_
 omega
theorem vdays_l1 (y m : Int) (hy : 0 ≤ y) (hm : m ≤ 12) : ∀ (k : Nat) (i n : Int), m - i = k → 1 ≤ i → -10000000 ≤ n → n + cum y m - cum y i ≤ 10000000 → -10000000 ≤ n ∧ n ≤ 10000000 → vokref1_Days.l1 y m n i = some (n + cum y m - cum y i, 0, ()) := by
 intro k
 induction k with
 | zero =>
  intro i n hk hi h1 h2 h3
  have e : i = m := by omega
  subst e
  rw [vokref1_Days.l1_eq]
  simp (disch := omega) only [ss, cond_true, cond_false, Option.bind_some]
  congr 2
  omega
 | succ k ih =>
  intro i n hk hi h1 h2 h3
  have hL := vlength_spec y i hy
  have hb := mlen_bd y i
  have hc := cum_succ y i hi (by omega)
  have hd := cum_bd y m
  have he := cum_bd y i
  have hg := cum_bd y (i + 1)
  rw [vokref1_Days.l1_eq]
  by_cases hn2 : n + mlen y i ≤ 10000000
  ·simp (disch := omega) only [ss, cond_true, cond_false, Option.bind_some, hL]
   rw [ih (i + 1) (n + mlen y i) (by omega) (by omega) (by omega) (by omega) ⟨by omega, hn2⟩]
   congr 2
   omega
  ·-- the bound holds where it is used
   simp (disch := omega) only [ss, cond_true, cond_false, Option.bind_some, hL]
   have hm' : cum y (i + 1) ≤ cum y m := by
    have mono : ∀ (j : Nat) (a : Int), 1 ≤ a → a + j ≤ 12 → cum y a ≤ cum y (a + j) := by
     intro j
     induction j with
     | zero => intro a _ _; simp
     | succ j ihj =>
      intro a ha hj
      have := ihj a ha (by omega)
      have h5 := cum_succ y (a + j) (by omega) (by omega)
      have h6 := mlen_bd y (a + j)
      rw [show a + ((j + 1 : Nat) : Int) = a + (j : Int) + 1 by omega, h5]
      omega
    have := mono k (i + 1) (by omega) (by omega)
    rwa [show i + 1 + (k : Int) = m by omega] at this
   omega
theorem days_spec (y m d : Int) : civil_Days.f y m d = some (if validB y m d = true then (fst_ y + d - 1 + cum y m, 0, ()) else (0, 1, ())) ∧ vokref1_Days.f y m d = some (if validB y m d = true then (fst_ y + d - 1 + cum y m, 0, ()) else (0, 1, ())) := by
 obtain ⟨h1, h2⟩ := valid_spec y m d
 rw [civil_Days.f_eq, vokref1_Days.f_eq, h1, h2]
 cases hv : validB y m d with
 | false => exact ⟨rfl, rfl⟩
 | true =>
  unfold validB at hv
  simp only [Bool.and_eq_true, decide_eq_true_eq] at hv
  obtain ⟨⟨⟨h3, h4⟩, h5⟩, h6⟩ := hv
  have hb := mlen_bd y m
  have hm := hb.2.2 (by omega)
  have hN := number_civil y m d h3 (by omega) hm.1 hm.2 h5 (by omega)
  have hF := first_spec y h3 (by omega)
  have hfb := fst_bd y h3 (by omega)
  have hcb := cum_bd y m
  have hc1 : cum y 1 = 0 := rfl
  obtain ⟨k, hk⟩ := Int.eq_ofNat_of_zero_le (show 0 ≤ m - 1 by omega)
  have hD := vdays_l1 y m (by omega) hm.2 k 1 (fst_ y + d - 1) hk (by omega) (by omega) (by omega) ⟨by omega, by omega⟩
  rw [if_pos rfl]
  constructor
  ·simp (disch := omega) only [ss, cond_true, cond_false, Option.bind_some, hN]
  ·simp (disch := omega) only [ss, cond_true, cond_false, Option.bind_some, hF, hD]
   congr 2
   omega
end Go.GV.YtkkfgajlnpcpcaaGreatDoor
namespace Go.GV.YtkkfgajlnpcpcaaGreatDoor
open Go.Proofs
theorem make_spec (y m d h mi s : Int) (hh : 0 ≤ h ∧ h ≤ 10000) (hm : 0 ≤ mi ∧ mi ≤ 10000) (hs : 0 ≤ s ∧ s ≤ 10000) : ∃ t e, stamp_Make.f y m d h mi s = some (t, e, ()) ∧ vokref1_Make.f y m d h mi s = some (t, e, ()) := by
 obtain ⟨h1, h2⟩ := days_spec y m d
 rw [stamp_Make.f_eq, vokref1_Make.f_eq, h1, h2]
 cases hv : validB y m d with
 | false =>
  refine ⟨0, 1, ?_, ?_⟩
  ·simp (disch := omega) only [ss, cond_true, cond_false, Option.bind_some, Bool.false_eq_true, if_false, stamp_Make.l1_eq]
  ·simp (disch := omega) only [ss, cond_true, cond_false, Option.bind_some, Bool.false_eq_true, if_false, vokref1_Make.l1_eq]
 | true =>
  unfold validB at hv
  simp only [Bool.and_eq_true, decide_eq_true_eq] at hv
  obtain ⟨⟨⟨h3, h4⟩, h5⟩, h6⟩ := hv
  have hb := mlen_bd y m
  have hfb := fst_bd y h3 (by omega)
  have hcb := cum_bd y m
  generalize fst_ y + d - 1 + cum y m = n at *
  have hn : -20000000 ≤ n ∧ n ≤ 20000000 ∨ True := .inr trivial
  by_cases c1 : h > 23
  ·exact ⟨0, 1, by simp (disch := omega) only [ss, cond_true, cond_false, Option.bind_some, if_true, stamp_Make.l1_eq], by simp (disch := omega) only [ss, cond_true, cond_false, Option.bind_some, if_true, vokref1_Make.l1_eq]⟩
  ·by_cases c2 : mi > 59
   ·exact ⟨0, 1, by simp (disch := omega) only [ss, cond_true, cond_false, Option.bind_some, if_true, stamp_Make.l1_eq], by simp (disch := omega) only [ss, cond_true, cond_false, Option.bind_some, if_true, vokref1_Make.l1_eq]⟩
   ·by_cases c3 : s > 59
    ·exact ⟨0, 1, by simp (disch := omega) only [ss, cond_true, cond_false, Option.bind_some, if_true, stamp_Make.l1_eq], by simp (disch := omega) only [ss, cond_true, cond_false, Option.bind_some, if_true, vokref1_Make.l1_eq]⟩
    ·refine ⟨_, 0, by simp (disch := omega) only [ss, cond_true, cond_false, Option.bind_some, if_true, stamp_Make.l1_eq]; rfl, ?_⟩
     simp (disch := omega) only [ss, cond_true, cond_false, Option.bind_some, if_true, vokref1_Make.l1_eq]
     rw [Int.mul_comm h 3600, Int.mul_comm mi 60]
theorem dval_mul : ∀ (l : List UInt8) (a : Nat), dval a l = a * 10 ^ l.length + dval 0 l
 | [], a => by show a = a * 10 ^ 0 + 0; omega
 | c :: l, a => by
  show dval (10 * a + (c.toNat - 48)) l = _ + dval (10 * 0 + (c.toNat - 48)) l
  rw [Nat.mul_zero, Nat.zero_add, dval_mul l (10 * a + (c.toNat - 48)), dval_mul l (c.toNat - 48), List.length_cons, Nat.pow_succ, Nat.add_mul]
  have : a * (10 ^ l.length * 10) = 10 * a * 10 ^ l.length := by rw [Nat.mul_comm (10 ^ l.length) 10, ← Nat.mul_assoc, Nat.mul_comm a 10]
  omega
theorem dval_lt (l : List UInt8) (h : ∀ c ∈ l, dig c) : dval 0 l < 10 ^ l.length := by
 suffices g : ∀ (l : List UInt8) (a b : Nat), (∀ c ∈ l, dig c) → a < b → dval a l < b * 10 ^ l.length by
  have := g l 0 1 h (by omega)
  omega
 intro l
 induction l with
 | nil => intro a b _ h; show a < b * 1; omega
 | cons c l ih =>
  intro a b hd hab
  have hc := hd c List.mem_cons_self
  unfold dig at hc
  have := ih (10 * a + (c.toNat - 48)) (10 * b) (fun x hx => hd x (List.mem_cons_of_mem _ hx)) (by omega)
  show dval (10 * a + (c.toNat - 48)) l < _
  rw [List.length_cons, Nat.pow_succ, Nat.mul_comm (10 ^ l.length) 10, ← Nat.mul_assoc, Nat.mul_comm b 10]
  exact this
def digs (l : List UInt8) : Prop := ∀ c ∈ l, dig c
theorem u8w {c : UInt8} (h : dig c) : IntKind.u8.wrap ((c.toNat : Int) - 48) = ((c.toNat - 48 : Nat) : Int) := by
 unfold dig at h
 rw [Go.IntWalk.u8_in _ ⟨by omega, by omega⟩]
 omega
theorem snum_l1 (s : List UInt8) (hs : s.length ≤ 10) : ∀ (k i v : Nat), s.length - i = k → i ≤ s.length → v < 10 ^ i →
  (digs (s.drop i) → stamp_number.l1 (mkS s) v s.length i = some (((dval v (s.drop i) : Nat) : Int), true, ())) ∧ (¬ digs (s.drop i) → stamp_number.l1 (mkS s) v s.length i = some (0, false, ())) ∧
  (digs (s.drop i) → vokref1_number.l1 (mkS s) v i = some (((dval v (s.drop i) : Nat) : Int), ())) ∧ (¬ digs (s.drop i) → vokref1_number.l1 (mkS s) v i = some (-1, ())) := by
 intro k
 induction k with
 | zero =>
  intro i v hk hi hv
  have e : i = s.length := by omega
  subst e
  rw [stamp_number.l1_eq, vokref1_number.l1_eq, List.drop_length]
  simp (disch := omega) only [ss, cond_true, cond_false, Option.bind_some, szS]
  exact ⟨fun _ => rfl, fun h => absurd (fun c hc => by cases hc) h, fun _ => rfl, fun h => absurd (fun c hc => by cases hc) h⟩
 | succ k ih =>
  intro i v hk hi hv
  have hlt : i < s.length := by omega
  have hbt : bt (mkS s) (i : Int) = ((s.getD i 0).toNat : Int) := bt_nat (mkS s) i
  have hv2 : v < 10000000000 := Nat.lt_of_lt_of_le hv (Nat.pow_le_pow_right (by omega) (show i ≤ 10 by omega))
  have hc := u8_bd (s.getD i 0)
  rw [stamp_number.l1_eq, vokref1_number.l1_eq, drop_getD' 0 hlt]
  by_cases hd : dig (s.getD i 0)
  ·have hd' := hd
   unfold dig at hd'
   have hw := u8w hd
   have e2 : (10 : Int) * (v : Int) + ((s.getD i 0).toNat - 48 : Nat) = ((10 * v + ((s.getD i 0).toNat - 48) : Nat) : Int) := by omega
   simp (disch := omega) only [ss, cond_true, cond_false, Option.bind_some, szS, hbt, stamp_number.l2_eq, vokref1_number.l2_eq, hw]
   rw [e2]
   obtain ⟨h1, h2, h3, h4⟩ := ih (i + 1) (10 * v + ((s.getD i 0).toNat - 48)) (by omega) (by omega) (by rw [Nat.pow_succ]; omega)
   have hq : digs (s.getD i 0 :: s.drop (i + 1)) ↔ digs (s.drop (i + 1)) := ⟨fun h c hc => h c (List.mem_cons_of_mem _ hc), fun h c hc => (List.mem_cons.1 hc).elim (fun e => e ▸ hd) (h c)⟩
   rw [hq]
   exact ⟨h1, h2, h3, h4⟩
  ·have hq : ¬ digs (s.getD i 0 :: s.drop (i + 1)) := fun h => hd (h _ List.mem_cons_self)
   unfold dig at hd
   by_cases c1 : ((s.getD i 0).toNat : Int) < 48
   ·simp (disch := omega) only [ss, cond_true, cond_false, Option.bind_some, szS, hbt, stamp_number.l2_eq, vokref1_number.l2_eq]
    exact ⟨fun h => absurd h hq, fun _ => trivial, fun h => absurd h hq, fun _ => trivial⟩
   ·simp (disch := omega) only [ss, cond_true, cond_false, Option.bind_some, szS, hbt, stamp_number.l2_eq, vokref1_number.l2_eq]
    exact ⟨fun h => absurd h hq, fun _ => trivial, fun h => absurd h hq, fun _ => trivial⟩
theorem snum (s : List UInt8) (hs : s.length ≤ 10) : (digs s → stamp_number.f (mkS s) = some (((dval 0 s : Nat) : Int), true, ())) ∧ (¬ digs s → stamp_number.f (mkS s) = some (0, false, ())) := by
 have := snum_l1 s hs _ 0 0 rfl (Nat.zero_le _) (by decide)
 rw [Int.natCast_zero, List.drop_zero] at this
 rw [stamp_number.f_eq, szS]
 exact ⟨this.1, this.2.1⟩
theorem vnum (s : List UInt8) (hs : s.length ≤ 10) : (digs s → vokref1_number.f (mkS s) = some (((dval 0 s : Nat) : Int), ())) ∧ (¬ digs s → vokref1_number.f (mkS s) = some (-1, ())) := by
 have := snum_l1 s hs _ 0 0 rfl (Nat.zero_le _) (by decide)
 rw [Int.natCast_zero, List.drop_zero] at this
 rw [vokref1_number.f_eq]
 exact ⟨this.2.2.1, this.2.2.2⟩
theorem vnum' (s : List UInt8) (hs : s.length ≤ 10) : ∃ n : Int, vokref1_number.f (mkS s) = some (n, ()) ∧ (digs s → n = (dval 0 s : Nat)) ∧ (¬ digs s → n = -1) := by
 by_cases h : digs s
 ·exact ⟨_, (vnum s hs).1 h, fun _ => rfl, fun q => absurd h q⟩
 ·exact ⟨_, (vnum s hs).2 h, fun q => absurd q h, fun _ => rfl⟩
theorem digs_app {a b : List UInt8} : digs (a ++ b) ↔ digs a ∧ digs b :=
 ⟨fun h => ⟨fun c hc => h c (List.mem_append_left _ hc), fun c hc => h c (List.mem_append_right _ hc)⟩, fun h c hc => (List.mem_append.1 hc).elim (h.1 c) (h.2 c)⟩
theorem ex_S (s : List UInt8) (a b : Nat) : (mkS s).extract a b = mkS ((s.drop a).take (b - a)) := B_inj (by rw [B_ext, B_mk, B_mk])
theorem len2 (y0 y1 y2 y3 y4 y5 : Int) (h : y0 < 0 ∨ y1 < 0 ∨ y2 < 0 ∨ y3 < 0 ∨ y4 < 0 ∨ y5 < 0) : vokref1_Parse.l2 0 [y0, y1, y2, y3, y4, y5] = some (0, 4, ()) := by
 have step : ∀ (i : Nat) (hi : i < 6), vokref1_Parse.l2 i [y0, y1, y2, y3, y4, y5] = bif decide ([y0, y1, y2, y3, y4, y5].getD i 0 < 0) then some (0, 4, ()) else vokref1_Parse.l2 (i + 1 : Nat) [y0, y1, y2, y3, y4, y5] := by
  intro i hi
  conv => lhs; rw [vokref1_Parse.l2_eq]
  simp (disch := omega) only [ss, cond_true, cond_false, Option.bind_some, List.length_cons, List.length_nil]
  rfl
 have z := step 0 (by omega)
 rw [Int.natCast_zero] at z
 rw [z, step 1 (by omega), step 2 (by omega), step 3 (by omega), step 4 (by omega), step 5 (by omega)]
 simp only [List.getD_cons_zero, List.getD_cons_succ]
 by_cases h0 : y0 < 0
 ·simp (disch := omega) only [ss, cond_true, cond_false, Option.bind_some]
 ·by_cases h1 : y1 < 0
  ·simp (disch := omega) only [ss, cond_true, cond_false, Option.bind_some]
  ·by_cases h2 : y2 < 0
   ·simp (disch := omega) only [ss, cond_true, cond_false, Option.bind_some]
   ·by_cases h3 : y3 < 0
    ·simp (disch := omega) only [ss, cond_true, cond_false, Option.bind_some]
    ·by_cases h4 : y4 < 0
     ·simp (disch := omega) only [ss, cond_true, cond_false, Option.bind_some]
     ·have h5 : y5 < 0 := by omega
      simp (disch := omega) only [ss, cond_true, cond_false, Option.bind_some]
theorem len2' (y0 y1 y2 y3 y4 y5 : Int) (h : ¬ (y0 < 0 ∨ y1 < 0 ∨ y2 < 0 ∨ y3 < 0 ∨ y4 < 0 ∨ y5 < 0)) : vokref1_Parse.l2 0 [y0, y1, y2, y3, y4, y5] = (vokref1_Make.f y0 y1 y2 y3 y4 y5).bind fun t7 => some (t7.1, t7.2.1, ()) := by
 have step : ∀ (i : Nat) (hi : i < 6), vokref1_Parse.l2 i [y0, y1, y2, y3, y4, y5] = bif decide ([y0, y1, y2, y3, y4, y5].getD i 0 < 0) then some (0, 4, ()) else vokref1_Parse.l2 (i + 1 : Nat) [y0, y1, y2, y3, y4, y5] := by
  intro i hi
  conv => lhs; rw [vokref1_Parse.l2_eq]
  simp (disch := omega) only [ss, cond_true, cond_false, Option.bind_some, List.length_cons, List.length_nil]
  rfl
 have z := step 0 (by omega)
 rw [Int.natCast_zero] at z
 rw [z, step 1 (by omega), step 2 (by omega), step 3 (by omega), step 4 (by omega), step 5 (by omega)]
 simp only [List.getD_cons_zero, List.getD_cons_succ]
 simp (disch := omega) only [ss, cond_true, cond_false, Option.bind_some]
 rw [vokref1_Parse.l2_eq]
 simp (disch := omega) only [ss, cond_true, cond_false, Option.bind_some, List.length_cons, List.length_nil]
 rfl
theorem stamp_same (s : List UInt8) (hs : s.length ≤ 1000000) : ∃ t e, stamp_Parse.f (mkS s) = some (t, e, ()) ∧ vokref1_Parse.f (mkS s) = some (t, e, ()) := by
 rw [stamp_Parse.f_eq, vokref1_Parse.f_eq]
 by_cases c1 : (s.length : Int) < 15
 ·exact ⟨0, 2, by simp (disch := omega) only [ss, cond_true, cond_false, Option.bind_some, szS], by simp (disch := omega) only [ss, cond_true, cond_false, Option.bind_some, szS]⟩
 ·by_cases c2 : (s.length : Int) > 15
  ·exact ⟨0, 4, by simp (disch := omega) only [ss, cond_true, cond_false, Option.bind_some, szS, stamp_Parse.l1_eq], by simp (disch := omega) only [ss, cond_true, cond_false, Option.bind_some, szS, vokref1_Parse.l1_eq]⟩
  ·have hl : s.length = 15 := by omega
   have hbt : bt (mkS s) 8 = ((s.getD 8 0).toNat : Int) := bt_nat (mkS s) 8
   by_cases c3 : ((s.getD 8 0).toNat : Int) = 84
   ·simp (disch := omega) only [ss, cond_true, cond_false, Option.bind_some, szS, hbt, stamp_Parse.l1_eq, vokref1_Parse.l1_eq]
    have t4 : (4 : Int).toNat = 4 := rfl
    simp only [show Int.toNat 4 = 4 from rfl, show Int.toNat 6 = 6 from rfl, show Int.toNat 8 = 8 from rfl, show Int.toNat 9 = 9 from rfl, show Int.toNat 11 = 11 from rfl, show Int.toNat 13 = 13 from rfl, show Int.toNat 15 = 15 from rfl, hl, ex_S, Nat.sub_zero, List.drop_zero, Nat.reduceSub]
    have L : ∀ a b : Nat, a + b ≤ 15 → ((s.drop a).take b).length = b := fun a b h => by rw [List.length_take, List.length_drop]; omega
    have sp1 : s.take 8 = s.take 4 ++ ((s.drop 4).take 2 ++ (s.drop 6).take 2) := by
     have h1 : s.take 8 = s.take 4 ++ (s.drop 4).take 4 := by rw [← List.take_add]
     have h2 : (s.drop 4).take 4 = (s.drop 4).take 2 ++ (s.drop 6).take 2 := by rw [show (4 : Nat) = 2 + 2 from rfl, List.take_add, List.drop_drop]
     rw [h1, h2]
    have sp2 : (s.drop 9).take 6 = (s.drop 9).take 2 ++ ((s.drop 11).take 2 ++ (s.drop 13).take 2) := by
     have h1 : (s.drop 9).take 6 = (s.drop 9).take 2 ++ (s.drop 11).take 4 := by rw [show (6 : Nat) = 2 + 4 from rfl, List.take_add, List.drop_drop]
     have h2 : (s.drop 11).take 4 = (s.drop 11).take 2 ++ (s.drop 13).take 2 := by rw [show (4 : Nat) = 2 + 2 from rfl, List.take_add, List.drop_drop]
     rw [h1, h2]
    have L1 : (s.take 4).length = 4 := by rw [List.length_take]; omega
    have L2 := L 4 2 (by omega)
    have L3 := L 6 2 (by omega)
    have L4 := L 9 2 (by omega)
    have L5 := L 11 2 (by omega)
    have L6 := L 13 2 (by omega)
    obtain ⟨n1, e1, p1, q1⟩ := vnum' (s.take 4) (by omega)
    obtain ⟨n2, e2, p2, q2⟩ := vnum' ((s.drop 4).take 2) (by omega)
    obtain ⟨n3, e3, p3, q3⟩ := vnum' ((s.drop 6).take 2) (by omega)
    obtain ⟨n4, e4, p4, q4⟩ := vnum' ((s.drop 9).take 2) (by omega)
    obtain ⟨n5, e5, p5, q5⟩ := vnum' ((s.drop 11).take 2) (by omega)
    obtain ⟨n6, e6, p6, q6⟩ := vnum' ((s.drop 13).take 2) (by omega)
    have hA := snum (s.take 8) (by rw [List.length_take]; omega)
    have hB := snum ((s.drop 9).take 6) (by rw [List.length_take]; omega)
    rw [sp1] at hA
    rw [sp2] at hB
    rw [digs_app, digs_app] at hA hB
    rw [sp1, sp2]
    simp only [e1, e2, e3, e4, e5, e6, Option.bind_some]
    generalize s.take 4 = w1 at *
    generalize (s.drop 4).take 2 = w2 at *
    generalize (s.drop 6).take 2 = w3 at *
    generalize (s.drop 9).take 2 = w4 at *
    generalize (s.drop 11).take 2 = w5 at *
    generalize (s.drop 13).take 2 = w6 at *
    by_cases g1 : digs w1 ∧ digs w2 ∧ digs w3
    ·by_cases g2 : digs w4 ∧ digs w5 ∧ digs w6
     ·rw [hA.1 g1, hB.1 g2]
      have b1 := dval_lt w1 g1.1
      have b2 := dval_lt w2 g1.2.1
      have b3 := dval_lt w3 g1.2.2
      have b4 := dval_lt w4 g2.1
      have b5 := dval_lt w5 g2.2.1
      have b6 := dval_lt w6 g2.2.2
      rw [L1] at b1
      rw [L2] at b2
      rw [L3] at b3
      rw [L4] at b4
      rw [L5] at b5
      rw [L6] at b6
      have v1 : dval 0 (w1 ++ (w2 ++ w3)) = dval 0 w1 * 10000 + dval 0 w2 * 100 + dval 0 w3 := by
       rw [dval_app, dval_app, dval_mul w3, dval_mul w2, L2, L3]
       omega
      have v2 : dval 0 (w4 ++ (w5 ++ w6)) = dval 0 w4 * 10000 + dval 0 w5 * 100 + dval 0 w6 := by
       rw [dval_app, dval_app, dval_mul w6, dval_mul w5, L5, L6]
       omega
      rw [v1, v2]
      have p1 := p1 g1.1
      have p2 := p2 g1.2.1
      have p3 := p3 g1.2.2
      have p4 := p4 g2.1
      have p5 := p5 g2.2.1
      have p6 := p6 g2.2.2
      subst p1 p2 p3 p4 p5 p6
      rw [len2' _ _ _ _ _ _ (by omega)]
      generalize dval 0 w1 = a1 at *
      generalize dval 0 w2 = a2 at *
      generalize dval 0 w3 = a3 at *
      generalize dval 0 w4 = a4 at *
      generalize dval 0 w5 = a5 at *
      generalize dval 0 w6 = a6 at *
      obtain ⟨t, e, m1, m2⟩ := make_spec a1 a2 a3 a4 a5 a6 (by omega) (by omega) (by omega)
      refine ⟨t, e, ?_, by rw [m2]; rfl⟩
      have k1 : Int.tdiv ((a1 * 10000 + a2 * 100 + a3 : Nat) : Int) 10000 = a1 := by rw [tdn (by omega)]; omega
      have k2 : Int.tdiv ((a1 * 10000 + a2 * 100 + a3 : Nat) : Int) 100 = ((a1 * 100 + a2 : Nat) : Int) := by rw [tdn (by omega)]; omega
      have k3 : Int.tmod ((a1 * 100 + a2 : Nat) : Int) 100 = a2 := by rw [tmn (by omega)]; omega
      have k4 : Int.tmod ((a1 * 10000 + a2 * 100 + a3 : Nat) : Int) 100 = a3 := by rw [tmn (by omega)]; omega
      have j1 : Int.tdiv ((a4 * 10000 + a5 * 100 + a6 : Nat) : Int) 10000 = a4 := by rw [tdn (by omega)]; omega
      have j2 : Int.tdiv ((a4 * 10000 + a5 * 100 + a6 : Nat) : Int) 100 = ((a4 * 100 + a5 : Nat) : Int) := by rw [tdn (by omega)]; omega
      have j3 : Int.tmod ((a4 * 100 + a5 : Nat) : Int) 100 = a5 := by rw [tmn (by omega)]; omega
      have j4 : Int.tmod ((a4 * 10000 + a5 * 100 + a6 : Nat) : Int) 100 = a6 := by rw [tmn (by omega)]; omega
      simp (disch := omega) only [ss, cond_true, cond_false, Option.bind_some, stamp_Parse.l2_eq, k1, k2, k4, j1, j2, j4]
      rw [k3, j3, m1]
      rfl
     ·refine ⟨0, 4, ?_, ?_⟩
      ·rw [hA.1 g1, hB.2 g2]
       simp (disch := omega) only [ss, cond_true, cond_false, Option.bind_some, stamp_Parse.l2_eq]
      ·refine len2 _ _ _ _ _ _ ?_
       by_cases z4 : digs w4
       ·by_cases z5 : digs w5
        ·have := q6 fun z6 => g2 ⟨z4, z5, z6⟩
         omega
        ·have := q5 z5
         omega
       ·have := q4 z4
        omega
    ·refine ⟨0, 4, ?_, ?_⟩
     ·rw [hA.2 g1]
      by_cases g2 : digs w4 ∧ digs w5 ∧ digs w6
      ·rw [hB.1 g2]
       simp (disch := omega) only [ss, cond_true, cond_false, Option.bind_some, stamp_Parse.l2_eq]
      ·rw [hB.2 g2]
       simp (disch := omega) only [ss, cond_true, cond_false, Option.bind_some, stamp_Parse.l2_eq]
     ·refine len2 _ _ _ _ _ _ ?_
      by_cases z1 : digs w1
      ·by_cases z2 : digs w2
       ·have := q3 fun z3 => g1 ⟨z1, z2, z3⟩
        omega
       ·have := q2 z2
        omega
      ·have := q1 z1
       omega
   ·exact ⟨0, 4, by simp (disch := omega) only [ss, cond_true, cond_false, Option.bind_some, szS, hbt, stamp_Parse.l1_eq], by simp (disch := omega) only [ss, cond_true, cond_false, Option.bind_some, szS, hbt, vokref1_Parse.l1_eq]⟩
end Go.GV.YtkkfgajlnpcpcaaGreatDoor
namespace Go.GV.YtkkfgajlnpcpcaaGreatDoor
open Go.Proofs
theorem dm (a b : List UInt8) : decide (mkS a = mkS b) = decide (a = b) := decide_eq_decide.2 ⟨mkS_inj, fun h => by rw [h]⟩
def FREQ : List UInt8 := [70, 82, 69, 81]
def sh60 (r : Rl) : Prop := r.2.2.2.2.2.2.1.length ≤ 60 ∧ r.2.2.2.2.2.2.2.1.length ≤ 60 ∧ r.2.2.2.2.2.2.2.2.1.length ≤ 60 ∧ r.2.2.2.2.2.2.2.2.2.1.length ≤ 60 ∧ r.2.2.2.2.2.2.2.2.2.2.1.length ≤ 60 ∧ r.2.2.2.2.2.2.2.2.2.2.2.1.length ≤ 60 ∧ r.2.2.2.2.2.2.2.2.2.2.2.2.1.length ≤ 60 ∧ r.2.2.2.2.2.2.2.2.2.2.2.2.2.1.length ≤ 60 ∧ r.2.2.2.2.2.2.2.2.2.2.2.2.2.2.1.length ≤ 60
def Part (r : Rl) (name : List UInt8) (a b : Option (Bool × Rl × Unit)) : Prop :=
 (∃ r' : Rl, a = some (true, r', ()) ∧ b = some (true, r', ()) ∧ (sh60 r → sh60 r') ∧ (name = FREQ → r'.1 ≠ 0) ∧ (name ≠ FREQ → r'.1 = r.1)) ∨ (∃ r1 r2 : Rl, a = some (false, r1, ()) ∧ b = some (false, r2, ()))
def fw : List (List UInt8) := [[89, 69, 65, 82, 76, 89], [77, 79, 78, 84, 72, 76, 89], [87, 69, 69, 75, 76, 89], [68, 65, 73, 76, 89], [72, 79, 85, 82, 76, 89], [77, 73, 78, 85, 84, 69, 76, 89], [83, 69, 67, 79, 78, 68, 76, 89]]
theorem words_eq : rule_words.f = some (fw.map mkS, ()) := by rw [rule_words.f_eq]; rfl
theorem freqs_eq : vokref4_freqs.f = some ((([] : List UInt8) :: fw).map mkS, ()) := by rw [vokref4_freqs.f_eq]; rfl
theorem nm0 : (⟨#[70, 82, 69, 81]⟩ : ByteArray) = mkS [70, 82, 69, 81] := rfl
theorem nm1 : (⟨#[73, 78, 84, 69, 82, 86, 65, 76]⟩ : ByteArray) = mkS [73, 78, 84, 69, 82, 86, 65, 76] := rfl
theorem nm2 : (⟨#[67, 79, 85, 78, 84]⟩ : ByteArray) = mkS [67, 79, 85, 78, 84] := rfl
theorem nm3 : (⟨#[85, 78, 84, 73, 76]⟩ : ByteArray) = mkS [85, 78, 84, 73, 76] := rfl
theorem nm4 : (⟨#[66, 89, 68, 65, 89]⟩ : ByteArray) = mkS [66, 89, 68, 65, 89] := rfl
theorem nm5 : (⟨#[87, 75, 83, 84]⟩ : ByteArray) = mkS [87, 75, 83, 84] := rfl
theorem nm6 : (⟨#[66, 89, 77, 79, 78, 84, 72]⟩ : ByteArray) = mkS [66, 89, 77, 79, 78, 84, 72] := rfl
theorem nm7 : (⟨#[66, 89, 87, 69, 69, 75, 78, 79]⟩ : ByteArray) = mkS [66, 89, 87, 69, 69, 75, 78, 79] := rfl
theorem nm8 : (⟨#[66, 89, 89, 69, 65, 82, 68, 65, 89]⟩ : ByteArray) = mkS [66, 89, 89, 69, 65, 82, 68, 65, 89] := rfl
theorem nm9 : (⟨#[66, 89, 77, 79, 78, 84, 72, 68, 65, 89]⟩ : ByteArray) = mkS [66, 89, 77, 79, 78, 84, 72, 68, 65, 89] := rfl
theorem nm10 : (⟨#[66, 89, 72, 79, 85, 82]⟩ : ByteArray) = mkS [66, 89, 72, 79, 85, 82] := rfl
theorem nm11 : (⟨#[66, 89, 77, 73, 78, 85, 84, 69]⟩ : ByteArray) = mkS [66, 89, 77, 73, 78, 85, 84, 69] := rfl
theorem nm12 : (⟨#[66, 89, 83, 69, 67, 79, 78, 68]⟩ : ByteArray) = mkS [66, 89, 83, 69, 67, 79, 78, 68] := rfl
theorem nm13 : (⟨#[66, 89, 83, 69, 84, 80, 79, 83]⟩ : ByteArray) = mkS [66, 89, 83, 69, 84, 80, 79, 83] := rfl
section
variable (f iv ct un wk : Int) (en : Bool) (mo we yd md : List Int) (dy : List Dy) (ho mi se po : List Int)
theorem part_INTERVAL (v : List UInt8) (hv : v.length ≤ 50000) : Part (f, iv, ct, un, wk, en, mo, we, yd, md, dy, ho, mi, se, po, ()) [73, 78, 84, 69, 82, 86, 65, 76] (rule_part.f (f, iv, ct, un, wk, en, mo, we, yd, md, dy, ho, mi, se, po, ()) (mkS [73, 78, 84, 69, 82, 86, 65, 76]) (mkS v)) (vokref4_put.f (f, iv, ct, un, wk, en, mo, we, yd, md, dy, ho, mi, se, po, ()) (mkS [73, 78, 84, 69, 82, 86, 65, 76]) (mkS v)) := by
 rw [rule_part.f_eq, vokref4_put.f_eq]
 simp (disch := decide) only [beq_S, nm0, nm1, nm2, nm3, nm4, nm5, nm6, nm7, nm8, nm9, nm10, nm11, nm12, nm13, dm, dp, dn, cond_true, cond_false]
 rcases number_spec v (by omega) with ⟨n, hn, e⟩ | ⟨hn, n, e⟩ <;> rcases vnumber_spec v (by omega) with ⟨m, hm, g⟩ | ⟨hm, m, g⟩
 ·have := isN_uniq hn hm
  subst this
  simp only [e, g, Option.bind_some]
  refine .inl ⟨(f, n, ct, un, wk, en, mo, we, yd, md, dy, ho, mi, se, po, ()), rfl, rfl, ?_, fun h => absurd h (by decide), fun _ => rfl⟩
  exact fun h => h
 ·exact absurd hn (hm n)
 ·exact absurd hm (hn m)
 ·simp only [e, g, Option.bind_some]
  exact .inr ⟨_, _, rfl, rfl⟩
theorem part_COUNT (v : List UInt8) (hv : v.length ≤ 50000) : Part (f, iv, ct, un, wk, en, mo, we, yd, md, dy, ho, mi, se, po, ()) [67, 79, 85, 78, 84] (rule_part.f (f, iv, ct, un, wk, en, mo, we, yd, md, dy, ho, mi, se, po, ()) (mkS [67, 79, 85, 78, 84]) (mkS v)) (vokref4_put.f (f, iv, ct, un, wk, en, mo, we, yd, md, dy, ho, mi, se, po, ()) (mkS [67, 79, 85, 78, 84]) (mkS v)) := by
 rw [rule_part.f_eq, vokref4_put.f_eq]
 simp (disch := decide) only [beq_S, nm0, nm1, nm2, nm3, nm4, nm5, nm6, nm7, nm8, nm9, nm10, nm11, nm12, nm13, dm, dp, dn, cond_true, cond_false]
 rcases number_spec v (by omega) with ⟨n, hn, e⟩ | ⟨hn, n, e⟩ <;> rcases vnumber_spec v (by omega) with ⟨m, hm, g⟩ | ⟨hm, m, g⟩
 ·have := isN_uniq hn hm
  subst this
  simp only [e, g, Option.bind_some]
  refine .inl ⟨(f, iv, n, un, wk, en, mo, we, yd, md, dy, ho, mi, se, po, ()), rfl, rfl, ?_, fun h => absurd h (by decide), fun _ => rfl⟩
  exact fun h => h
 ·exact absurd hn (hm n)
 ·exact absurd hm (hn m)
 ·simp only [e, g, Option.bind_some]
  exact .inr ⟨_, _, rfl, rfl⟩
theorem part_UNTIL (v : List UInt8) (hv : v.length ≤ 50000) : Part (f, iv, ct, un, wk, en, mo, we, yd, md, dy, ho, mi, se, po, ()) [85, 78, 84, 73, 76] (rule_part.f (f, iv, ct, un, wk, en, mo, we, yd, md, dy, ho, mi, se, po, ()) (mkS [85, 78, 84, 73, 76]) (mkS v)) (vokref4_put.f (f, iv, ct, un, wk, en, mo, we, yd, md, dy, ho, mi, se, po, ()) (mkS [85, 78, 84, 73, 76]) (mkS v)) := by
 rw [rule_part.f_eq, vokref4_put.f_eq]
 simp (disch := decide) only [beq_S, nm0, nm1, nm2, nm3, nm4, nm5, nm6, nm7, nm8, nm9, nm10, nm11, nm12, nm13, dm, dp, dn, cond_true, cond_false]
 obtain ⟨t, e, h1, h2⟩ := stamp_same v (by omega)
 simp only [h1, h2, Option.bind_some]
 by_cases he : e = 0
 ·rw [dp he]
  refine .inl ⟨(f, iv, ct, t, wk, true, mo, we, yd, md, dy, ho, mi, se, po, ()), rfl, rfl, fun h => h, fun h => absurd h (by decide), fun _ => rfl⟩
 ·rw [dn he]
  exact .inr ⟨_, _, rfl, rfl⟩
theorem part_BYDAY (v : List UInt8) (hv : v.length ≤ 50000) : Part (f, iv, ct, un, wk, en, mo, we, yd, md, dy, ho, mi, se, po, ()) [66, 89, 68, 65, 89] (rule_part.f (f, iv, ct, un, wk, en, mo, we, yd, md, dy, ho, mi, se, po, ()) (mkS [66, 89, 68, 65, 89]) (mkS v)) (vokref4_put.f (f, iv, ct, un, wk, en, mo, we, yd, md, dy, ho, mi, se, po, ()) (mkS [66, 89, 68, 65, 89]) (mkS v)) := by
 rw [rule_part.f_eq, vokref4_put.f_eq]
 simp (disch := decide) only [beq_S, nm0, nm1, nm2, nm3, nm4, nm5, nm6, nm7, nm8, nm9, nm10, nm11, nm12, nm13, dm, dp, dn, cond_true, cond_false]
 rcases dayList_spec v hv with ⟨r, hr, e, g⟩ | ⟨_, e, g⟩
 ·have hr : r.length ≤ 60 := hr.1.2
  simp only [e, g, Option.bind_some]
  refine .inl ⟨(f, iv, ct, un, wk, en, mo, we, yd, md, r, ho, mi, se, po, ()), rfl, rfl, ?_, fun h => absurd h (by decide), fun _ => rfl⟩
  exact fun h => by
   unfold sh60 at *
   dsimp only at *
   exact ⟨h.1, h.2.1, h.2.2.1, h.2.2.2.1, hr, h.2.2.2.2.2.1, h.2.2.2.2.2.2.1, h.2.2.2.2.2.2.2.1, h.2.2.2.2.2.2.2.2⟩
 ·simp only [e, g, Option.bind_some]
  exact .inr ⟨_, _, rfl, rfl⟩
theorem part_BYMONTH (v : List UInt8) (hv : v.length ≤ 50000) : Part (f, iv, ct, un, wk, en, mo, we, yd, md, dy, ho, mi, se, po, ()) [66, 89, 77, 79, 78, 84, 72] (rule_part.f (f, iv, ct, un, wk, en, mo, we, yd, md, dy, ho, mi, se, po, ()) (mkS [66, 89, 77, 79, 78, 84, 72]) (mkS v)) (vokref4_put.f (f, iv, ct, un, wk, en, mo, we, yd, md, dy, ho, mi, se, po, ()) (mkS [66, 89, 77, 79, 78, 84, 72]) (mkS v)) := by
 rw [rule_part.f_eq, vokref4_put.f_eq]
 simp (disch := decide) only [beq_S, nm0, nm1, nm2, nm3, nm4, nm5, nm6, nm7, nm8, nm9, nm10, nm11, nm12, nm13, dm, dp, dn, cond_true, cond_false]
 rw [rule_part.l1_eq]
 rcases list_spec v hv with ⟨r, hr, e, g⟩ | ⟨_, e, g⟩
 ·have hr : r.length ≤ 60 := hr.1.2
  simp only [e, g, Option.bind_some]
  refine .inl ⟨(f, iv, ct, un, wk, en, r, we, yd, md, dy, ho, mi, se, po, ()), rfl, rfl, ?_, fun h => absurd h (by decide), fun _ => rfl⟩
  exact fun h => by
   unfold sh60 at *
   dsimp only at *
   exact ⟨hr, h.2.1, h.2.2.1, h.2.2.2.1, h.2.2.2.2.1, h.2.2.2.2.2.1, h.2.2.2.2.2.2.1, h.2.2.2.2.2.2.2.1, h.2.2.2.2.2.2.2.2⟩
 ·simp only [e, g, Option.bind_some]
  exact .inr ⟨_, _, rfl, rfl⟩
theorem part_BYWEEKNO (v : List UInt8) (hv : v.length ≤ 50000) : Part (f, iv, ct, un, wk, en, mo, we, yd, md, dy, ho, mi, se, po, ()) [66, 89, 87, 69, 69, 75, 78, 79] (rule_part.f (f, iv, ct, un, wk, en, mo, we, yd, md, dy, ho, mi, se, po, ()) (mkS [66, 89, 87, 69, 69, 75, 78, 79]) (mkS v)) (vokref4_put.f (f, iv, ct, un, wk, en, mo, we, yd, md, dy, ho, mi, se, po, ()) (mkS [66, 89, 87, 69, 69, 75, 78, 79]) (mkS v)) := by
 rw [rule_part.f_eq, vokref4_put.f_eq]
 simp (disch := decide) only [beq_S, nm0, nm1, nm2, nm3, nm4, nm5, nm6, nm7, nm8, nm9, nm10, nm11, nm12, nm13, dm, dp, dn, cond_true, cond_false]
 rw [rule_part.l1a_eq]
 rcases list_spec v hv with ⟨r, hr, e, g⟩ | ⟨_, e, g⟩
 ·have hr : r.length ≤ 60 := hr.1.2
  simp only [e, g, Option.bind_some]
  refine .inl ⟨(f, iv, ct, un, wk, en, mo, r, yd, md, dy, ho, mi, se, po, ()), rfl, rfl, ?_, fun h => absurd h (by decide), fun _ => rfl⟩
  exact fun h => by
   unfold sh60 at *
   dsimp only at *
   exact ⟨h.1, hr, h.2.2.1, h.2.2.2.1, h.2.2.2.2.1, h.2.2.2.2.2.1, h.2.2.2.2.2.2.1, h.2.2.2.2.2.2.2.1, h.2.2.2.2.2.2.2.2⟩
 ·simp only [e, g, Option.bind_some]
  exact .inr ⟨_, _, rfl, rfl⟩
theorem part_BYYEARDAY (v : List UInt8) (hv : v.length ≤ 50000) : Part (f, iv, ct, un, wk, en, mo, we, yd, md, dy, ho, mi, se, po, ()) [66, 89, 89, 69, 65, 82, 68, 65, 89] (rule_part.f (f, iv, ct, un, wk, en, mo, we, yd, md, dy, ho, mi, se, po, ()) (mkS [66, 89, 89, 69, 65, 82, 68, 65, 89]) (mkS v)) (vokref4_put.f (f, iv, ct, un, wk, en, mo, we, yd, md, dy, ho, mi, se, po, ()) (mkS [66, 89, 89, 69, 65, 82, 68, 65, 89]) (mkS v)) := by
 rw [rule_part.f_eq, vokref4_put.f_eq]
 simp (disch := decide) only [beq_S, nm0, nm1, nm2, nm3, nm4, nm5, nm6, nm7, nm8, nm9, nm10, nm11, nm12, nm13, dm, dp, dn, cond_true, cond_false]
 rw [rule_part.l1b_eq]
 rcases list_spec v hv with ⟨r, hr, e, g⟩ | ⟨_, e, g⟩
 ·have hr : r.length ≤ 60 := hr.1.2
  simp only [e, g, Option.bind_some]
  refine .inl ⟨(f, iv, ct, un, wk, en, mo, we, r, md, dy, ho, mi, se, po, ()), rfl, rfl, ?_, fun h => absurd h (by decide), fun _ => rfl⟩
  exact fun h => by
   unfold sh60 at *
   dsimp only at *
   exact ⟨h.1, h.2.1, hr, h.2.2.2.1, h.2.2.2.2.1, h.2.2.2.2.2.1, h.2.2.2.2.2.2.1, h.2.2.2.2.2.2.2.1, h.2.2.2.2.2.2.2.2⟩
 ·simp only [e, g, Option.bind_some]
  exact .inr ⟨_, _, rfl, rfl⟩
theorem part_BYMONTHDAY (v : List UInt8) (hv : v.length ≤ 50000) : Part (f, iv, ct, un, wk, en, mo, we, yd, md, dy, ho, mi, se, po, ()) [66, 89, 77, 79, 78, 84, 72, 68, 65, 89] (rule_part.f (f, iv, ct, un, wk, en, mo, we, yd, md, dy, ho, mi, se, po, ()) (mkS [66, 89, 77, 79, 78, 84, 72, 68, 65, 89]) (mkS v)) (vokref4_put.f (f, iv, ct, un, wk, en, mo, we, yd, md, dy, ho, mi, se, po, ()) (mkS [66, 89, 77, 79, 78, 84, 72, 68, 65, 89]) (mkS v)) := by
 rw [rule_part.f_eq, vokref4_put.f_eq]
 simp (disch := decide) only [beq_S, nm0, nm1, nm2, nm3, nm4, nm5, nm6, nm7, nm8, nm9, nm10, nm11, nm12, nm13, dm, dp, dn, cond_true, cond_false]
 rw [rule_part.l1c_eq]
 rcases list_spec v hv with ⟨r, hr, e, g⟩ | ⟨_, e, g⟩
 ·have hr : r.length ≤ 60 := hr.1.2
  simp only [e, g, Option.bind_some]
  refine .inl ⟨(f, iv, ct, un, wk, en, mo, we, yd, r, dy, ho, mi, se, po, ()), rfl, rfl, ?_, fun h => absurd h (by decide), fun _ => rfl⟩
  exact fun h => by
   unfold sh60 at *
   dsimp only at *
   exact ⟨h.1, h.2.1, h.2.2.1, hr, h.2.2.2.2.1, h.2.2.2.2.2.1, h.2.2.2.2.2.2.1, h.2.2.2.2.2.2.2.1, h.2.2.2.2.2.2.2.2⟩
 ·simp only [e, g, Option.bind_some]
  exact .inr ⟨_, _, rfl, rfl⟩
theorem part_BYHOUR (v : List UInt8) (hv : v.length ≤ 50000) : Part (f, iv, ct, un, wk, en, mo, we, yd, md, dy, ho, mi, se, po, ()) [66, 89, 72, 79, 85, 82] (rule_part.f (f, iv, ct, un, wk, en, mo, we, yd, md, dy, ho, mi, se, po, ()) (mkS [66, 89, 72, 79, 85, 82]) (mkS v)) (vokref4_put.f (f, iv, ct, un, wk, en, mo, we, yd, md, dy, ho, mi, se, po, ()) (mkS [66, 89, 72, 79, 85, 82]) (mkS v)) := by
 rw [rule_part.f_eq, vokref4_put.f_eq]
 simp (disch := decide) only [beq_S, nm0, nm1, nm2, nm3, nm4, nm5, nm6, nm7, nm8, nm9, nm10, nm11, nm12, nm13, dm, dp, dn, cond_true, cond_false]
 rw [rule_part.l1d_eq]
 rcases list_spec v hv with ⟨r, hr, e, g⟩ | ⟨_, e, g⟩
 ·have hr : r.length ≤ 60 := hr.1.2
  simp only [e, g, Option.bind_some]
  refine .inl ⟨(f, iv, ct, un, wk, en, mo, we, yd, md, dy, r, mi, se, po, ()), rfl, rfl, ?_, fun h => absurd h (by decide), fun _ => rfl⟩
  exact fun h => by
   unfold sh60 at *
   dsimp only at *
   exact ⟨h.1, h.2.1, h.2.2.1, h.2.2.2.1, h.2.2.2.2.1, hr, h.2.2.2.2.2.2.1, h.2.2.2.2.2.2.2.1, h.2.2.2.2.2.2.2.2⟩
 ·simp only [e, g, Option.bind_some]
  exact .inr ⟨_, _, rfl, rfl⟩
theorem part_BYMINUTE (v : List UInt8) (hv : v.length ≤ 50000) : Part (f, iv, ct, un, wk, en, mo, we, yd, md, dy, ho, mi, se, po, ()) [66, 89, 77, 73, 78, 85, 84, 69] (rule_part.f (f, iv, ct, un, wk, en, mo, we, yd, md, dy, ho, mi, se, po, ()) (mkS [66, 89, 77, 73, 78, 85, 84, 69]) (mkS v)) (vokref4_put.f (f, iv, ct, un, wk, en, mo, we, yd, md, dy, ho, mi, se, po, ()) (mkS [66, 89, 77, 73, 78, 85, 84, 69]) (mkS v)) := by
 rw [rule_part.f_eq, vokref4_put.f_eq]
 simp (disch := decide) only [beq_S, nm0, nm1, nm2, nm3, nm4, nm5, nm6, nm7, nm8, nm9, nm10, nm11, nm12, nm13, dm, dp, dn, cond_true, cond_false]
 rw [rule_part.l1e_eq]
 rcases list_spec v hv with ⟨r, hr, e, g⟩ | ⟨_, e, g⟩
 ·have hr : r.length ≤ 60 := hr.1.2
  simp only [e, g, Option.bind_some]
  refine .inl ⟨(f, iv, ct, un, wk, en, mo, we, yd, md, dy, ho, r, se, po, ()), rfl, rfl, ?_, fun h => absurd h (by decide), fun _ => rfl⟩
  exact fun h => by
   unfold sh60 at *
   dsimp only at *
   exact ⟨h.1, h.2.1, h.2.2.1, h.2.2.2.1, h.2.2.2.2.1, h.2.2.2.2.2.1, hr, h.2.2.2.2.2.2.2.1, h.2.2.2.2.2.2.2.2⟩
 ·simp only [e, g, Option.bind_some]
  exact .inr ⟨_, _, rfl, rfl⟩
theorem part_BYSECOND (v : List UInt8) (hv : v.length ≤ 50000) : Part (f, iv, ct, un, wk, en, mo, we, yd, md, dy, ho, mi, se, po, ()) [66, 89, 83, 69, 67, 79, 78, 68] (rule_part.f (f, iv, ct, un, wk, en, mo, we, yd, md, dy, ho, mi, se, po, ()) (mkS [66, 89, 83, 69, 67, 79, 78, 68]) (mkS v)) (vokref4_put.f (f, iv, ct, un, wk, en, mo, we, yd, md, dy, ho, mi, se, po, ()) (mkS [66, 89, 83, 69, 67, 79, 78, 68]) (mkS v)) := by
 rw [rule_part.f_eq, vokref4_put.f_eq]
 simp (disch := decide) only [beq_S, nm0, nm1, nm2, nm3, nm4, nm5, nm6, nm7, nm8, nm9, nm10, nm11, nm12, nm13, dm, dp, dn, cond_true, cond_false]
 rw [rule_part.l1f_eq]
 rcases list_spec v hv with ⟨r, hr, e, g⟩ | ⟨_, e, g⟩
 ·have hr : r.length ≤ 60 := hr.1.2
  simp only [e, g, Option.bind_some]
  refine .inl ⟨(f, iv, ct, un, wk, en, mo, we, yd, md, dy, ho, mi, r, po, ()), rfl, rfl, ?_, fun h => absurd h (by decide), fun _ => rfl⟩
  exact fun h => by
   unfold sh60 at *
   dsimp only at *
   exact ⟨h.1, h.2.1, h.2.2.1, h.2.2.2.1, h.2.2.2.2.1, h.2.2.2.2.2.1, h.2.2.2.2.2.2.1, hr, h.2.2.2.2.2.2.2.2⟩
 ·simp only [e, g, Option.bind_some]
  exact .inr ⟨_, _, rfl, rfl⟩
theorem part_BYSETPOS (v : List UInt8) (hv : v.length ≤ 50000) : Part (f, iv, ct, un, wk, en, mo, we, yd, md, dy, ho, mi, se, po, ()) [66, 89, 83, 69, 84, 80, 79, 83] (rule_part.f (f, iv, ct, un, wk, en, mo, we, yd, md, dy, ho, mi, se, po, ()) (mkS [66, 89, 83, 69, 84, 80, 79, 83]) (mkS v)) (vokref4_put.f (f, iv, ct, un, wk, en, mo, we, yd, md, dy, ho, mi, se, po, ()) (mkS [66, 89, 83, 69, 84, 80, 79, 83]) (mkS v)) := by
 rw [rule_part.f_eq, vokref4_put.f_eq]
 simp (disch := decide) only [beq_S, nm0, nm1, nm2, nm3, nm4, nm5, nm6, nm7, nm8, nm9, nm10, nm11, nm12, nm13, dm, dp, dn, cond_true, cond_false]
 rw [rule_part.l1g_eq]
 rcases list_spec v hv with ⟨r, hr, e, g⟩ | ⟨_, e, g⟩
 ·have hr : r.length ≤ 60 := hr.1.2
  simp only [e, g, Option.bind_some]
  refine .inl ⟨(f, iv, ct, un, wk, en, mo, we, yd, md, dy, ho, mi, se, r, ()), rfl, rfl, ?_, fun h => absurd h (by decide), fun _ => rfl⟩
  exact fun h => by
   unfold sh60 at *
   dsimp only at *
   exact ⟨h.1, h.2.1, h.2.2.1, h.2.2.2.1, h.2.2.2.2.1, h.2.2.2.2.2.1, h.2.2.2.2.2.2.1, h.2.2.2.2.2.2.2.1, hr⟩
 ·simp only [e, g, Option.bind_some]
  exact .inr ⟨_, _, rfl, rfl⟩
theorem part_WKST (v : List UInt8) (hv : v.length ≤ 50000) : Part (f, iv, ct, un, wk, en, mo, we, yd, md, dy, ho, mi, se, po, ()) [87, 75, 83, 84] (rule_part.f (f, iv, ct, un, wk, en, mo, we, yd, md, dy, ho, mi, se, po, ()) (mkS [87, 75, 83, 84]) (mkS v)) (vokref4_put.f (f, iv, ct, un, wk, en, mo, we, yd, md, dy, ho, mi, se, po, ()) (mkS [87, 75, 83, 84]) (mkS v)) := by
 rw [rule_part.f_eq, vokref4_put.f_eq]
 simp (disch := decide) only [beq_S, nm0, nm1, nm2, nm3, nm4, nm5, nm6, nm7, nm8, nm9, nm10, nm11, nm12, nm13, dm, dp, dn, cond_true, cond_false]
 have hI := index_spec wd v (by decide)
 have hW := word_spec wd v (by decide)
 have hp := posF_ge wd v 0 (by omega)
 have hnil : ([] : List UInt8) ∉ wd := by decide
 simp only [weekdays_eq, wdays_eq, hI, hW, Option.bind_some]
 by_cases c : v ∈ wd
 ·have hv0 : v ≠ [] := fun q => hnil (q ▸ c)
  have hge := hp.1.2 c
  rw [if_neg hv0, dp (show posF 0 wd v ≥ 0 from hge)]
  exact .inl ⟨_, rfl, rfl, fun h => h, fun h => absurd h (by decide), fun _ => rfl⟩
 ·have hlt : ¬ posF 0 wd v ≥ 0 := fun q => c (hp.1.1 q)
  have : ¬ (if v = [] then (-1 : Int) else posF 0 wd v) ≥ 0 := by split <;> omega
  rw [dn hlt, dn this]
  exact .inr ⟨_, _, rfl, rfl⟩
theorem part_FREQ (v : List UInt8) (hv : v.length ≤ 50000) : Part (f, iv, ct, un, wk, en, mo, we, yd, md, dy, ho, mi, se, po, ()) [70, 82, 69, 81] (rule_part.f (f, iv, ct, un, wk, en, mo, we, yd, md, dy, ho, mi, se, po, ()) (mkS [70, 82, 69, 81]) (mkS v)) (vokref4_put.f (f, iv, ct, un, wk, en, mo, we, yd, md, dy, ho, mi, se, po, ()) (mkS [70, 82, 69, 81]) (mkS v)) := by
 rw [rule_part.f_eq, vokref4_put.f_eq]
 simp (disch := decide) only [beq_S, nm0, nm1, nm2, nm3, nm4, nm5, nm6, nm7, nm8, nm9, nm10, nm11, nm12, nm13, dm, dp, dn, cond_true, cond_false]
 have hI := index_spec fw v (by decide)
 have hW := word_spec ([] :: fw) v (by decide)
 have hp := posF_ge fw v 0 (by omega)
 have hlt7 := posF_lt fw v 0 (by omega)
 have hl7 : (fw.length : Int) = 7 := rfl
 have hnil : ([] : List UInt8) ∉ fw := by decide
 have hs := posF_succ fw v 0
 have hw : IntKind.i64.wrap (posF 0 fw v + 1) = posF 0 fw v + 1 := wr (by omega) (by omega)
 simp only [words_eq, freqs_eq, hI, hW, Option.bind_some, hw]
 by_cases c : v ∈ fw
 ·have hv0 : v ≠ [] := fun q => hnil (q ▸ c)
  have hge := hp.1.2 c
  have e : posF 0 ([] :: fw) v = posF 0 fw v + 1 := by
   show (if [] = v then (0 : Int) else posF (0 + 1) fw v) = _
   rw [if_neg fun q => hv0 q.symm, hs, if_pos c]
  rw [if_neg hv0, e, dp (show posF 0 fw v + 1 > 0 by omega)]
  refine .inl ⟨(posF 0 fw v + 1, iv, ct, un, wk, en, mo, we, yd, md, dy, ho, mi, se, po, ()), rfl, rfl, fun h => h, fun _ => ?_, fun h => absurd rfl h⟩
  show posF 0 fw v + 1 ≠ 0
  omega
 ·have hlt : posF 0 fw v = -1 := hp.2.2.2 (Int.not_le.1 fun q => c (hp.1.1 q))
  have : (if v = [] then (-1 : Int) else posF 0 ([] :: fw) v) = -1 := by
   by_cases hv0 : v = []
   ·rw [if_pos hv0]
   ·rw [if_neg hv0]
    show (if [] = v then (0 : Int) else posF (0 + 1) fw v) = _
    rw [if_neg fun q => hv0 q.symm, hs, if_neg c]
  rw [this, hlt]
  exact .inr ⟨_, _, rfl, rfl⟩
theorem part_same (name v : List UInt8) (hv : v.length ≤ 50000) : Part (f, iv, ct, un, wk, en, mo, we, yd, md, dy, ho, mi, se, po, ()) name (rule_part.f (f, iv, ct, un, wk, en, mo, we, yd, md, dy, ho, mi, se, po, ()) (mkS name) (mkS v)) (vokref4_put.f (f, iv, ct, un, wk, en, mo, we, yd, md, dy, ho, mi, se, po, ()) (mkS name) (mkS v)) := by
 by_cases h0 : name = [70, 82, 69, 81]
 ·subst h0; exact part_FREQ f iv ct un wk en mo we yd md dy ho mi se po v hv
 by_cases h1 : name = [73, 78, 84, 69, 82, 86, 65, 76]
 ·subst h1; exact part_INTERVAL f iv ct un wk en mo we yd md dy ho mi se po v hv
 by_cases h2 : name = [67, 79, 85, 78, 84]
 ·subst h2; exact part_COUNT f iv ct un wk en mo we yd md dy ho mi se po v hv
 by_cases h3 : name = [85, 78, 84, 73, 76]
 ·subst h3; exact part_UNTIL f iv ct un wk en mo we yd md dy ho mi se po v hv
 by_cases h4 : name = [66, 89, 68, 65, 89]
 ·subst h4; exact part_BYDAY f iv ct un wk en mo we yd md dy ho mi se po v hv
 by_cases h5 : name = [87, 75, 83, 84]
 ·subst h5; exact part_WKST f iv ct un wk en mo we yd md dy ho mi se po v hv
 by_cases h6 : name = [66, 89, 77, 79, 78, 84, 72]
 ·subst h6; exact part_BYMONTH f iv ct un wk en mo we yd md dy ho mi se po v hv
 by_cases h7 : name = [66, 89, 87, 69, 69, 75, 78, 79]
 ·subst h7; exact part_BYWEEKNO f iv ct un wk en mo we yd md dy ho mi se po v hv
 by_cases h8 : name = [66, 89, 89, 69, 65, 82, 68, 65, 89]
 ·subst h8; exact part_BYYEARDAY f iv ct un wk en mo we yd md dy ho mi se po v hv
 by_cases h9 : name = [66, 89, 77, 79, 78, 84, 72, 68, 65, 89]
 ·subst h9; exact part_BYMONTHDAY f iv ct un wk en mo we yd md dy ho mi se po v hv
 by_cases h10 : name = [66, 89, 72, 79, 85, 82]
 ·subst h10; exact part_BYHOUR f iv ct un wk en mo we yd md dy ho mi se po v hv
 by_cases h11 : name = [66, 89, 77, 73, 78, 85, 84, 69]
 ·subst h11; exact part_BYMINUTE f iv ct un wk en mo we yd md dy ho mi se po v hv
 by_cases h12 : name = [66, 89, 83, 69, 67, 79, 78, 68]
 ·subst h12; exact part_BYSECOND f iv ct un wk en mo we yd md dy ho mi se po v hv
 by_cases h13 : name = [66, 89, 83, 69, 84, 80, 79, 83]
 ·subst h13; exact part_BYSETPOS f iv ct un wk en mo we yd md dy ho mi se po v hv
 rw [rule_part.f_eq, vokref4_put.f_eq]
 simp only [beq_S, nm0, nm1, nm2, nm3, nm4, nm5, nm6, nm7, nm8, nm9, nm10, nm11, nm12, nm13, dm, dn h0, dn h1, dn h2, dn h3, dn h4, dn h5, dn h6, dn h7, dn h8, dn h9, dn h10, dn h11, dn h12, dn h13, cond_false]
 rw [rule_part.l1h_eq]
 exact .inr ⟨_, _, rfl, rfl⟩
end
end Go.GV.YtkkfgajlnpcpcaaGreatDoor
namespace Go.GV.YtkkfgajlnpcpcaaGreatDoor
open Go.Proofs
set_option maxRecDepth 1000000 in
theorem first_true : voklaw5_first.f = some (true, ()) := rn_closed (E := E) (f := 12) rfl (D := c12) (c := b12) (by kernel_rfl) (by kernel_rfl) _ 400 (by kernel_rfl)
def zR : Rl := (0, 0, 0, 0, 0, false, [], [], [], [], [], [], [], [], [], ())
noncomputable def PA (p : List (List UInt8)) (i : Nat) (r : Rl) (ms : List (List UInt8)) : Option (Rl × Int × Int × Unit) := rule_Parse.l1a (p.map mkS) p.length i 0 0 0 0 0 false r.1 r.2.1 r.2.2.1 r.2.2.2.1 r.2.2.2.2.1 r.2.2.2.2.2.1 r.2.2.2.2.2.2.1 r.2.2.2.2.2.2.2.1 r.2.2.2.2.2.2.2.2.1 r.2.2.2.2.2.2.2.2.2.1 r.2.2.2.2.2.2.2.2.2.2.1 r.2.2.2.2.2.2.2.2.2.2.2.1 r.2.2.2.2.2.2.2.2.2.2.2.2.1 r.2.2.2.2.2.2.2.2.2.2.2.2.2.1 r.2.2.2.2.2.2.2.2.2.2.2.2.2.2.1 (ms.map mkS)
noncomputable def VA (p : List (List UInt8)) (i : Nat) (r : Rl) (ms : List (List UInt8)) : Option (Rl × Int × Int × Unit) := vokref4_Parse.l1a (p.map mkS) i 0 0 0 0 0 false r.1 r.2.1 r.2.2.1 r.2.2.2.1 r.2.2.2.2.1 r.2.2.2.2.2.1 r.2.2.2.2.2.2.1 r.2.2.2.2.2.2.2.1 r.2.2.2.2.2.2.2.2.1 r.2.2.2.2.2.2.2.2.2.1 r.2.2.2.2.2.2.2.2.2.2.1 r.2.2.2.2.2.2.2.2.2.2.2.1 r.2.2.2.2.2.2.2.2.2.2.2.2.1 r.2.2.2.2.2.2.2.2.2.2.2.2.2.1 r.2.2.2.2.2.2.2.2.2.2.2.2.2.2.1 (ms.map mkS)
def Both (a b : Option (Rl × Int × Int × Unit)) : Prop := ∃ (R : Rl) (at_ e : Int), a = some (R, at_, e, ()) ∧ b = some (R, at_, e, ()) ∧ sh60 R
theorem sh60_z : sh60 zR := by unfold sh60 zR; simp
theorem both_z (n e : Int) : Both (some (zR, n, e, ())) (some (zR, n, e, ())) := ⟨zR, n, e, rfl, rfl, sh60_z⟩
theorem short_of {r : Rl} (h : sh60 r) : short r.2.2.2.2.2.2.1 r.2.2.2.2.2.2.2.1 r.2.2.2.2.2.2.2.2.1 r.2.2.2.2.2.2.2.2.2.1 r.2.2.2.2.2.2.2.2.2.2.1 r.2.2.2.2.2.2.2.2.2.2.2.1 r.2.2.2.2.2.2.2.2.2.2.2.2.1 r.2.2.2.2.2.2.2.2.2.2.2.2.2.1 r.2.2.2.2.2.2.2.2.2.2.2.2.2.2.1 := by
 unfold sh60 at h
 unfold short
 omega
theorem part_nil (r : Rl) (v : List UInt8) : ∃ r1 : Rl, rule_part.f (r.1, r.2.1, r.2.2.1, r.2.2.2.1, r.2.2.2.2.1, r.2.2.2.2.2.1, r.2.2.2.2.2.2.1, r.2.2.2.2.2.2.2.1, r.2.2.2.2.2.2.2.2.1, r.2.2.2.2.2.2.2.2.2.1, r.2.2.2.2.2.2.2.2.2.2.1, r.2.2.2.2.2.2.2.2.2.2.2.1, r.2.2.2.2.2.2.2.2.2.2.2.2.1, r.2.2.2.2.2.2.2.2.2.2.2.2.2.1, r.2.2.2.2.2.2.2.2.2.2.2.2.2.2.1, ()) (mkS []) (mkS v) = some (false, r1, ()) := by
 rw [rule_part.f_eq]
 simp (disch := decide) only [beq_S, nm0, nm1, nm2, nm3, nm4, nm5, nm6, nm7, nm8, nm9, nm10, nm11, nm12, nm13, dm, dn, cond_false]
 rw [rule_part.l1h_eq]
 exact ⟨_, rfl⟩
theorem parse_loop (p : List (List UInt8)) (hp : p.length ≤ 10000) (hpl : ∀ s ∈ p, s.length ≤ 5000) : ∀ (k i : Nat) (r : Rl) (ms : List (List UInt8)), p.length - i = k → i ≤ p.length → ms.length ≤ i → sh60 r → [] ∉ ms → (FREQ ∈ ms ↔ r.1 ≠ 0) → Both (PA p i r ms) (VA p i r ms) := by
 have hlim : limit = 17179869184 := rfl
 have hml : (p.map mkS).length = p.length := List.length_map ..
 intro k
 induction k with
 | zero =>
  intro i r ms hk hil hms hr hne hfr
  have e : i = p.length := by omega
  subst e
  have hC : slices_Contains_string_string.f (ms.map mkS) ⟨#[70, 82, 69, 81]⟩ = some (decide (FREQ ∈ ms), ()) := contains_spec ms FREQ (by omega)
  have hM := may_same r (short_of hr)
  obtain ⟨b, hb⟩ := may_some r (short_of hr)
  have hMp : rule_May.f (r.1, r.2.1, r.2.2.1, r.2.2.2.1, r.2.2.2.2.1, r.2.2.2.2.2.1, r.2.2.2.2.2.2.1, r.2.2.2.2.2.2.2.1, r.2.2.2.2.2.2.2.2.1, r.2.2.2.2.2.2.2.2.2.1, r.2.2.2.2.2.2.2.2.2.2.1, r.2.2.2.2.2.2.2.2.2.2.2.1, r.2.2.2.2.2.2.2.2.2.2.2.2.1, r.2.2.2.2.2.2.2.2.2.2.2.2.2.1, r.2.2.2.2.2.2.2.2.2.2.2.2.2.2.1, ()) = some (b, ()) := hb
  have hMv : vokref4_May.f (r.1, r.2.1, r.2.2.1, r.2.2.2.1, r.2.2.2.2.1, r.2.2.2.2.2.1, r.2.2.2.2.2.2.1, r.2.2.2.2.2.2.2.1, r.2.2.2.2.2.2.2.2.1, r.2.2.2.2.2.2.2.2.2.1, r.2.2.2.2.2.2.2.2.2.2.1, r.2.2.2.2.2.2.2.2.2.2.2.1, r.2.2.2.2.2.2.2.2.2.2.2.2.1, r.2.2.2.2.2.2.2.2.2.2.2.2.2.1, r.2.2.2.2.2.2.2.2.2.2.2.2.2.2.1, ()) = some (b, ()) := hM ▸ hb
  unfold PA VA
  rw [rule_Parse.l1a_eq, vokref4_Parse.l1a_eq]
  simp (disch := omega) only [ss, cond_true, cond_false, Option.bind_some, hml, hC]
  by_cases c : FREQ ∈ ms
  ·have c0 : ¬ r.1 = 0 := hfr.1 c
   rw [dp c, dn c0]
   simp (disch := omega) only [ss, cond_true, cond_false, Option.bind_some, hMp, hMv]
   cases b with
   | false => exact both_z 0 1
   | true => exact ⟨r, 0, 0, rfl, rfl, hr⟩
  ·have c0 : r.1 = 0 := Decidable.byContradiction fun q => c (hfr.2 q)
   rw [dn c, dp c0]
   exact both_z 0 7
 | succ k ih =>
  intro i r ms hk hil hms hr hne hfr
  have hlt : i < p.length := by omega
  have hg := gm p i hlt
  have hsl := hpl _ (getD_mem' [] hlt)
  have pt : ∀ x9 : ByteArray, rule_Parse.l2a i x9 (p.map mkS) p.length i true 0 0 0 0 0 false r.1 r.2.1 r.2.2.1 r.2.2.2.1 r.2.2.2.2.1 r.2.2.2.2.2.1 r.2.2.2.2.2.2.1 r.2.2.2.2.2.2.2.1 r.2.2.2.2.2.2.2.2.1 r.2.2.2.2.2.2.2.2.2.1 r.2.2.2.2.2.2.2.2.2.2.1 r.2.2.2.2.2.2.2.2.2.2.2.1 r.2.2.2.2.2.2.2.2.2.2.2.2.1 r.2.2.2.2.2.2.2.2.2.2.2.2.2.1 r.2.2.2.2.2.2.2.2.2.2.2.2.2.2.1 (ms.map mkS) = some (zR, (i : Int), 4, ()) := fun x9 => by rw [rule_Parse.l2a_eq, cond_true]; rfl
  have vt : ∀ x9 : List ByteArray, vokref4_Parse.l2a (p.map mkS) i x9 true 0 0 0 0 0 false r.1 r.2.1 r.2.2.1 r.2.2.2.1 r.2.2.2.2.1 r.2.2.2.2.2.1 r.2.2.2.2.2.2.1 r.2.2.2.2.2.2.2.1 r.2.2.2.2.2.2.2.2.1 r.2.2.2.2.2.2.2.2.2.1 r.2.2.2.2.2.2.2.2.2.2.1 r.2.2.2.2.2.2.2.2.2.2.2.1 r.2.2.2.2.2.2.2.2.2.2.2.2.1 r.2.2.2.2.2.2.2.2.2.2.2.2.2.1 r.2.2.2.2.2.2.2.2.2.2.2.2.2.2.1 (ms.map mkS) = some (zR, (i : Int), 4, ()) := fun x9 => by rw [vokref4_Parse.l2a_eq, cond_true]; rfl
  generalize hs : p.getD i [] = s at hg hsl
  have hV : vokref_Split.f (mkS s) 61 = some ((segs 61 s).map mkS, ()) := vsplit_spec 61 s (by omega)
  have hsm : ((segs 61 s).map mkS).length = (segs 61 s).length := List.length_map ..
  unfold PA VA
  rw [rule_Parse.l1a_eq, vokref4_Parse.l1a_eq]
  simp (disch := omega) only [ss, cond_true, cond_false, Option.bind_some, hml, hg, hV]
  rcases first_of (c := (61 : UInt8)) (l := s) with hno | ⟨a, b, hab, ha⟩
  ·have hc : strings_Cut.f (mkS s) ⟨#[61]⟩ = some (mkS s, mkS [], false, ()) := cut_none (s := mkS s) (c := 61) hno
   have hl1 : ((segs 61 s).map mkS).length = 1 := by rw [hsm, segs_none hno]; rfl
   rw [hc, hl1]
   simp (disch := omega) only [ss, cond_true, cond_false, Option.bind_some, pt, vt]
   exact both_z i 4
  ·have hab2 : a.length + b.length ≤ 5000 := by rw [hab] at hsl; simp at hsl; omega
   have hc : strings_Cut.f (mkS s) ⟨#[61]⟩ = some (mkS a, mkS b, true, ()) := by rw [hab]; exact cut_some (c := 61) (by omega) ha
   have hsg : segs 61 s = a :: segs 61 b := by rw [hab]; exact segs_some ha
   have hl2 : 2 ≤ ((segs 61 s).map mkS).length := by
    rw [hsm, hsg]
    have := List.length_pos_iff.2 (segs_ne 61 b)
    simp
    omega
   have h0 : ((segs 61 s).map mkS).getD 0 ByteArray.empty = mkS a := by rw [hsg]; rfl
   generalize (segs 61 s).map mkS = sg at hl2 h0
   have hK := contains_spec ms a (by omega)
   have hW := word_spec ms a (by omega)
   have hpz := posF_ge ms a 0 (by omega)
   rw [hc]
   simp (disch := omega) only [ss, cond_true, cond_false, Option.bind_some, h0, hK, hW]
   by_cases c : a ∈ ms
   ·have ha0 : a ≠ [] := fun q => hne (q ▸ c)
    rw [dp c, if_neg ha0, dp (show posF 0 ms a ≥ 0 from hpz.1.2 c)]
    simp (disch := omega) only [ss, cond_true, cond_false, Option.bind_some, pt, vt]
    exact both_z i 4
   ·have hw : ¬ (if a = [] then (-1 : Int) else posF 0 ms a) ≥ 0 := by
     split
     ·omega
     ·exact fun q => c (hpz.1.1 q)
    rw [dn c, dn hw]
    have hsz : s.length = a.length + 1 + b.length := by rw [hab]; simp; omega
    have hx : (mkS s).extract (a.length + 1) s.length = mkS b := B_inj (by rw [← szS s, B_exte, B_mk, B_mk, hab, List.drop_append]; simp)
    have hvl : ∀ x, vokref4_Parse.l2a (p.map mkS) i sg false 0 0 0 0 0 false r.1 r.2.1 r.2.2.1 r.2.2.2.1 r.2.2.2.2.1 r.2.2.2.2.2.1 r.2.2.2.2.2.2.1 r.2.2.2.2.2.2.2.1 r.2.2.2.2.2.2.2.2.1 r.2.2.2.2.2.2.2.2.2.1 r.2.2.2.2.2.2.2.2.2.2.1 r.2.2.2.2.2.2.2.2.2.2.2.1 r.2.2.2.2.2.2.2.2.2.2.2.2.1 r.2.2.2.2.2.2.2.2.2.2.2.2.2.1 r.2.2.2.2.2.2.2.2.2.2.2.2.2.2.1 (ms.map mkS) = x ↔ ((vokref4_put.f (r.1, r.2.1, r.2.2.1, r.2.2.2.1, r.2.2.2.2.1, r.2.2.2.2.2.1, r.2.2.2.2.2.2.1, r.2.2.2.2.2.2.2.1, r.2.2.2.2.2.2.2.2.1, r.2.2.2.2.2.2.2.2.2.1, r.2.2.2.2.2.2.2.2.2.2.1, r.2.2.2.2.2.2.2.2.2.2.2.1, r.2.2.2.2.2.2.2.2.2.2.2.2.1, r.2.2.2.2.2.2.2.2.2.2.2.2.2.1, r.2.2.2.2.2.2.2.2.2.2.2.2.2.2.1, ()) (mkS a) (mkS b)).bind fun t9 => bif !t9.1 then (some (zR, (i : Int), 4, ())) else VA p (i + 1) t9.2.1 (ms ++ [a])) = x := fun x => by
     rw [vokref4_Parse.l2a_eq]
     simp (disch := omega) only [ss, cond_true, cond_false, Option.bind_some, h0, hml, hg, szS, List.length_singleton, List.length_map, hlim, hx]
     have : ms.map mkS ++ [mkS a] = (ms ++ [a]).map mkS := by simp
     rw [this]
     rfl
    rw [(hvl _).2 rfl]
    simp only [cond_false]
    rcases part_same r.1 r.2.1 r.2.2.1 r.2.2.2.1 r.2.2.2.2.1 r.2.2.2.2.2.1 r.2.2.2.2.2.2.1 r.2.2.2.2.2.2.2.1 r.2.2.2.2.2.2.2.2.1 r.2.2.2.2.2.2.2.2.2.1 r.2.2.2.2.2.2.2.2.2.2.1 r.2.2.2.2.2.2.2.2.2.2.2.1 r.2.2.2.2.2.2.2.2.2.2.2.2.1 r.2.2.2.2.2.2.2.2.2.2.2.2.2.1 r.2.2.2.2.2.2.2.2.2.2.2.2.2.2.1 a b (by omega) with ⟨r', e1, e2, h60, hf1, hf2⟩ | ⟨r1, r2, e1, e2⟩
    ·have ha0 : a ≠ [] := fun q => by
      subst q
      obtain ⟨r1, h1⟩ := part_nil r b
      rw [h1] at e1
      cases e1
     rw [e1, e2]
     simp only [Option.bind_some, Bool.not_true, cond_false]
     have next := ih (i + 1) r' (ms ++ [a]) (by omega) (by omega) (by simp; omega) (h60 hr) (by
      intro q
      rcases List.mem_append.1 q with q | q
      ·exact hne q
      ·rw [List.mem_singleton] at q; exact ha0 q.symm) (by
      rw [List.mem_append, List.mem_singleton]
      by_cases hF : a = FREQ
      ·exact ⟨fun _ => hf1 hF, fun _ => .inr hF.symm⟩
      ·rw [hf2 hF]
       exact ⟨fun q => hfr.1 (q.resolve_right fun q => hF q.symm), fun q => .inl (hfr.2 q)⟩)
     rw [rule_Parse.l2a_eq]
     simp (disch := omega) only [ss, cond_true, cond_false, Option.bind_some, List.length_map, List.length_singleton, hlim]
     have : ms.map mkS ++ [mkS a] = (ms ++ [a]).map mkS := by simp
     rw [this]
     exact next
    ·rw [e1, e2]
     simp only [Option.bind_some, Bool.not_false, cond_true]
     rw [rule_Parse.l2a_eq, cond_true]
     exact both_z i 4
theorem parse_same (s : List UInt8) (hs : s.length ≤ 1000000) : Both (rule_Parse.f (mkS s)) (vokref4_Parse.f (mkS s)) := by
 rw [rule_Parse.f_eq, vokref4_Parse.f_eq]
 by_cases c : (s.length : Int) > 4096
 ·simp (disch := omega) only [ss, cond_true, cond_false, Option.bind_some, szS]
  exact both_z 0 3
 ·have hsl := segs_len 59 s
  have hS : strings_Split.f (mkS s) ⟨#[59]⟩ = some ((segs 59 s).map mkS, ()) := split_one (c := 59) s (by omega)
  have hV : vokref_Split.f (mkS s) 59 = some ((segs 59 s).map mkS, ()) := vsplit_spec 59 s (by omega)
  have hml : ((segs 59 s).map mkS).length = (segs 59 s).length := List.length_map ..
  have hR : ∀ (x : List ByteArray) (n : Int), rule_Parse.l1 x n 0 0 0 0 0 0 false 0 1 0 0 0 false [] = rule_Parse.l1a x n 0 0 0 0 0 0 false 0 1 0 0 0 false [] [] [] [] [] [] [] [] [] [] := fun x n => by
   rw [rule_Parse.l1_eq, rule_Parse.l1a_eq]
   simp only [rule_Parse.l2_eq, rule_Parse.l2a_eq, cond_true]
  have hL : ∀ (x : List ByteArray) (i : Int) (y : List ByteArray) (b : Bool), vokref4_Parse.l2 x i y b 0 0 0 0 0 false 0 1 0 0 0 false [] = vokref4_Parse.l2a x i y b 0 0 0 0 0 false 0 1 0 0 0 false [] [] [] [] [] [] [] [] [] [] := fun x i y b => by
   rw [vokref4_Parse.l2_eq, vokref4_Parse.l2a_eq]
  have hQ : ∀ (x : List ByteArray), vokref4_Parse.l1 x 0 0 0 0 0 0 false 0 1 0 0 0 false [] = vokref4_Parse.l1a x 0 0 0 0 0 0 false 0 1 0 0 0 false [] [] [] [] [] [] [] [] [] [] := fun x => by
   rw [vokref4_Parse.l1_eq, vokref4_Parse.l1a_eq]
   simp only [hL]
  have := parse_loop (segs 59 s) (by omega) (fun t ht => by have := hsl.2 t ht; omega) _ 0 (0, 1, 0, 0, 0, false, [], [], [], [], [], [], [], [], [], ()) [] rfl (Nat.zero_le _) (Nat.le_refl _) (by unfold sh60; simp) (by simp) (by simp)
  simp (disch := omega) only [ss, cond_true, cond_false, Option.bind_some, szS, hS, hV, hR, hQ, hml]
  exact this
theorem days_same (a : List Dy) (ha : a.length ≤ 1000000) : vokref_Days.f a a = some (true, ()) := by
 have key : ∀ (k i : Nat), a.length - i = k → i ≤ a.length → vokref_Days.l1 a a i = some (true, ()) := by
  intro k
  induction k with
  | zero =>
   intro i hk hi
   rw [vokref_Days.l1_eq]
   simp (disch := omega) only [ss, cond_true, cond_false, Option.bind_some]
  | succ k ih =>
   intro i hk hi
   rw [vokref_Days.l1_eq]
   simp (disch := omega) only [ss, cond_true, cond_false, Option.bind_some, vokref_Days.l2_eq]
   exact ih (i + 1) (by omega) (by omega)
 rw [vokref_Days.f_eq]
 have := key _ 0 rfl (Nat.zero_le _)
 rw [Int.natCast_zero] at this
 simp (disch := omega) only [ss, cond_true, cond_false, Option.bind_some, this]
theorem rule_self (r : Rl) (h : sh60 r) : vokref_Rule.f r r = some (true, ()) := by
 unfold sh60 at h
 obtain ⟨h1, h2, h3, h4, h5, h6, h7, h8, h9⟩ := h
 rw [vokref_Rule.f_eq, ints_same _ (by omega), ints_same _ (by omega), ints_same _ (by omega), ints_same _ (by omega), days_same _ (by omega), ints_same _ (by omega), ints_same _ (by omega), ints_same _ (by omega), ints_same _ (by omega)]
 simp (disch := omega) only [ss, cond_true, cond_false, Option.bind_some, beq_self_eq_true]
theorem RuleParses_pure (s : ByteArray) : voklaw5_RuleParses.f s = some (true, ()) := by
 rw [voklaw5_RuleParses.f_eq]
 by_cases c : (s.size : Int) > 5000
 ·simp (disch := omega) only [ss, cond_true, cond_false, Option.bind_some, first_true]
 ·have hs : (B s).length ≤ 1000000 := by rw [← size_B]; omega
  obtain ⟨R, at_, e, h1, h2, h3⟩ := parse_same (B s) hs
  rw [mk_B] at h1 h2
  have hR : vokref_Rule.f (R.1, R.2.1, R.2.2.1, R.2.2.2.1, R.2.2.2.2.1, R.2.2.2.2.2.1, R.2.2.2.2.2.2.1, R.2.2.2.2.2.2.2.1, R.2.2.2.2.2.2.2.2.1, R.2.2.2.2.2.2.2.2.2.1, R.2.2.2.2.2.2.2.2.2.2.1, R.2.2.2.2.2.2.2.2.2.2.2.1, R.2.2.2.2.2.2.2.2.2.2.2.2.1, R.2.2.2.2.2.2.2.2.2.2.2.2.2.1, R.2.2.2.2.2.2.2.2.2.2.2.2.2.2.1, ()) (R.1, R.2.1, R.2.2.1, R.2.2.2.1, R.2.2.2.2.1, R.2.2.2.2.2.1, R.2.2.2.2.2.2.1, R.2.2.2.2.2.2.2.1, R.2.2.2.2.2.2.2.2.1, R.2.2.2.2.2.2.2.2.2.1, R.2.2.2.2.2.2.2.2.2.2.1, R.2.2.2.2.2.2.2.2.2.2.2.1, R.2.2.2.2.2.2.2.2.2.2.2.2.1, R.2.2.2.2.2.2.2.2.2.2.2.2.2.1, R.2.2.2.2.2.2.2.2.2.2.2.2.2.2.1, ()) = some (true, ()) := rule_self R h3
  simp (disch := omega) only [ss, cond_true, cond_false, Option.bind_some, first_true, h1, h2, hR]
end Go.GV.YtkkfgajlnpcpcaaGreatDoor
