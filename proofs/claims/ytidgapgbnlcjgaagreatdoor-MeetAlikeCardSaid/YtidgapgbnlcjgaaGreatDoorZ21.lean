/-
Part of the words that the laws of this seat are proved with: no statement of its own, no conditions.
-/
import Derived.Test.YtidgapgbnlcjgaaGreatDoorZ20
import Derived.Lib.ItoaLen
import Derived.Shelf.Strconv.AtoiAll
set_option linter.unusedVariables false
set_option linter.unusedSimpArgs false
namespace Go.GV.YtidgapgbnlcjgaaGreatDoor
def dval : Nat → List UInt8 → Nat
 | a, [] => a
 | a, c :: l => dval (10 * a + (c.toNat - 48)) l
theorem bH : ∀ (l m : List UInt8) (a : Nat), dval a (l ++ m) = dval (dval a l) m
 | [], _, _ => rfl
 | c :: l, m, a => bH l m _
theorem uH1 : ∀ (l : List UInt8) (a : Nat), a ≤ dval a l
 | [], _ => zG2 _
 | c :: l, a => iJ2 (by omega) (uH1 l _)
def dig (c : UInt8) : Prop := 48 ≤ c.toNat ∧ c.toNat ≤ 57
theorem of48 {d : Nat} (h : d < 10) : (UInt8.ofNat (48 + d)).toNat = 48 + d := by
 rw [UInt8.toNat_ofNat', vJ2 (by omega)]
theorem eV : ∀ (u : Nat), ∀ c ∈ Lib.decDigits u, dig c := by
 intro u
 induction u using Nat.strongRecOn with
 | ind u ih =>
  intro c hc
  rw [Lib.decDigits] at hc
  by_cases h : u < 10
  ·rw [dif_pos h, qH2] at hc
   subst hc
   unfold dig
   rw [of48 h]
   omega
  ·rw [dif_neg h] at hc
   rcases xG2.1 hc with h1 | h1
   ·exact ih (u / 10) (by omega) c h1
   ·rw [qH2] at h1
    subst h1
    unfold dig
    rw [of48 (by omega)]
    omega
theorem iM (u : Nat) : dval 0 (Lib.decDigits u) = u := by
 induction u using Nat.strongRecOn with
 | ind u ih =>
  by_cases h : u < 10
  ·have e : Lib.decDigits u = [UInt8.ofNat (48 + u)] := by rw [Lib.decDigits, dif_pos h]
   have h8 := of48 h
   rw [e]
   generalize UInt8.ofNat (48 + u) = c at h8
   show 10 * 0 + (c.toNat - 48) = u
   omega
  ·have e : Lib.decDigits u = Lib.decDigits (u / 10) ++ [UInt8.ofNat (48 + u % 10)] := by rw [Lib.decDigits, dif_neg h]
   rw [e, bH, ih (u / 10) (by omega)]
   have h8 := of48 (show u % 10 < 10 by omega)
   generalize UInt8.ofNat (48 + u % 10) = c at h8
   show 10 * (u / 10) + (c.toNat - 48) = u
   omega
theorem mL1 (u : Nat) : (Lib.decDigits u).length = Lib.nDigits u := Lib.decDigits_length u
theorem vQ1 (u : Nat) : 0 < (Lib.decDigits u).length := by rw [mL1]; exact Lib.nDigits_pos u
theorem D_ne (u : Nat) : Lib.decDigits u ≠ [] := fun h => by have := vQ1 u; rw [h] at this; simp at this
theorem eL (u : Nat) : (Lib.decDigits u).length ≤ 9 ↔ u ≤ 999999999 := by
 rw [mL1]
 have up : ∀ (k u : Nat), u < 10 ^ (k + 1) → Lib.nDigits u ≤ k + 1 := by
  intro k
  induction k with
  | zero => intro u h; rw [Lib.nDigits_small (by simpa using h)]; omega
  | succ k ih =>
   intro u h
   by_cases hu : u < 10
   ·rw [Lib.nDigits_small hu]; omega
   ·rw [Lib.nDigits_big hu]
    have := ih (u / 10) (by rw [Nat.pow_succ] at h; omega)
    omega
 have dn : ∀ (k u : Nat), 10 ^ k ≤ u → k + 1 ≤ Lib.nDigits u := by
  intro k
  induction k with
  | zero => intro u h; exact Lib.nDigits_pos u
  | succ k ih =>
   intro u h
   have h1 : 0 < 10 ^ k := Nat.pow_pos (by decide)
   rw [Nat.pow_succ] at h
   rw [Lib.nDigits_big (by omega)]
   have := ih (u / 10) (by omega)
   omega
 constructor
 ·intro h
  refine Nat.le_of_not_lt fun hu => ?_
  have := dn 9 u (by omega)
  omega
 ·intro h
  exact up 8 u (by omega)
theorem eA1 (u : Nat) (h : u < 18446744073709551616) : (Lib.decDigits u).length ≤ 20 := by rw [mL1]; exact Lib.nDigits_le20 u h
theorem lK1 (l : List UInt8) : ∀ (a : Nat), (∀ c ∈ l, dig c) → dval a l < 1844674407370955161 → Lib.parseUint10 a l = .ok (dval a l) := by
 induction l with
 | nil => intro a _ _; rfl
 | cons c l ih =>
  intro a hd hv
  have hc := hd c uG2
  have h1 := uH1 l (10 * a + (c.toNat - 48))
  have hv : dval (10 * a + (c.toNat - 48)) l < 1844674407370955161 := hv
  show _ = Lib.NumEnd.ok (dval (10 * a + (c.toNat - 48)) l)
  unfold dig at hc
  have e : a * 10 + (c.toNat - 48) = 10 * a + (c.toNat - 48) := by omega
  rw [Lib.parseUint10, if_pos hc, if_neg (by omega), if_neg (by omega), e]
  exact ih _ (fun x hx => hd x (tG2 _ hx)) hv
def isN (s : List UInt8) (n : Int) : Prop := s = Lib.itoa n ∧ -999999999 ≤ n ∧ n ≤ 999999999
theorem tF {n : Int} (h : n < 0) : Lib.itoa n = 45 :: Lib.decDigits n.natAbs := by unfold Lib.itoa; rw [if_pos h]
theorem yE {n : Int} (h : ¬ n < 0) : Lib.itoa n = Lib.decDigits n.toNat := by unfold Lib.itoa; rw [if_neg h]
theorem rY {u : Nat} {c : UInt8} {r : List UInt8} (h : Lib.decDigits u = c :: r) : c.toNat ≠ 43 ∧ c.toNat ≠ 45 := by
 have := eV u c (by rw [h]; exact uG2)
 unfold dig at this
 omega
theorem yT1 {n m : Int} (h : Lib.itoa n = Lib.itoa m) : n = m := by
 by_cases h1 : n < 0
 ·by_cases h2 : m < 0
  ·rw [tF h1, tF h2] at h
   have := congrArg (dval 0) (rJ2 h).2
   rw [iM, iM] at this
   omega
  ·rw [tF h1, yE h2] at h
   exact absurd rfl (rY h.symm).2
 ·by_cases h2 : m < 0
  ·rw [yE h1, tF h2] at h
   exact absurd rfl (rY h).2
  ·rw [yE h1, yE h2] at h
   have := congrArg (dval 0) h
   rw [iM, iM] at this
   omega
theorem oX {n : Int} (h0 : -999999999 ≤ n) (h1 : n ≤ 999999999) : Lib.atoiAll (Lib.itoa n) = .ok n := by
 by_cases hn : n < 0
 ·rw [tF hn]
  unfold Lib.atoiAll Lib.parseMag
  simp only
  have e45 : UInt8.toNat 45 = 45 := rfl
  simp only [e45, or_true, if_true, not_true, false_and, if_false, true_and]
  rw [if_neg (D_ne _), lK1 _ 0 (eV _) (by rw [iM]; omega), iM]
  simp only
  rw [if_neg (by omega)]
  congr 1
  omega
 ·rw [yE hn]
  cases hD : Lib.decDigits n.toNat with
  | nil => exact absurd hD (D_ne _)
  | cons c r =>
   obtain ⟨q1, q2⟩ := rY hD
   unfold Lib.atoiAll Lib.parseMag
   simp only
   rw [if_neg (show ¬ (c.toNat = 43 ∨ c.toNat = 45) from fun q => q.elim q1 q2), if_neg (by simp), ← hD, lK1 _ 0 (eV _) (by rw [iM]; omega), iM]
   simp only
   rw [if_neg (by omega), if_neg (fun q => q2 q.1), if_neg q2]
   congr 1
   omega
theorem mB1 (n : Int) : (((Lib.itoa n).length : Int) - (if n < 0 then 1 else 0) ≤ 9) ↔ -999999999 ≤ n ∧ n ≤ 999999999 := by
 by_cases hn : n < 0
 ·rw [tF hn, if_pos hn, vG2]
  have := eL n.natAbs
  omega
 ·rw [yE hn, if_neg hn]
  have := eL n.toNat
  omega
theorem bN1 {n : Int} (h0 : -9223372036854775808 ≤ n) (h1 : n ≤ 9223372036854775807) : (Lib.itoa n).length ≤ 21 := by
 by_cases hn : n < 0
 ·rw [tF hn, vG2]
  have := eA1 n.natAbs (by omega)
  omega
 ·rw [yE hn]
  have := eA1 n.toNat (by omega)
  omega
open Go.Proofs
theorem szS (l : List UInt8) : (mkS l).size = l.length := by rw [xR, B_mk]
theorem xM {a b : List UInt8} (h : mkS a = mkS b) : a = b := by have := congrArg B h; simpa [B_mk] using this
theorem dK1 {d : Nat} (h : d < 10) : gM [IntKind.u8.wrap ((48 : Int) + (d : Int))] = mkS [UInt8.ofNat (48 + d)] := by
 refine nI ?_
 rw [xO1, B_mk, Go.IntWalk.u8_in _ ⟨by omega, by omega⟩]
 simp only [tH2, List.map_nil]
 rw [show ((48 : Int) + (d : Int)).toNat = 48 + d by omega]
theorem td10 {n : Int} (h : 0 ≤ n) : Int.tdiv n 10 = n / 10 := Int.tdiv_eq_ediv_of_nonneg h
theorem tm10 {n : Int} (h : 0 ≤ n) : Int.tmod n 10 = n % 10 := eJ2 h
theorem cC2 {n : Int} (h : n ≤ 0) : Int.tdiv n 10 = -((-n) / 10) := by
 have : Int.tdiv n 10 = -Int.tdiv (-n) 10 := by rw [Int.neg_tdiv, Int.neg_neg]
 rw [this, td10 (by omega)]
theorem rE2 {n : Int} (h : n ≤ 0) : Int.tmod n 10 = -((-n) % 10) := by
 have : Int.tmod n 10 = -Int.tmod (-n) 10 := by rw [Int.neg_tmod, Int.neg_neg]
 rw [this, tm10 (by omega)]
theorem nS1 : ∀ (u : Nat), (u : Int) ≤ 9223372036854775807 → kG.f (u : Int) = some (mkS (Lib.decDigits u), ()) := by
 intro u
 induction u using Nat.strongRecOn with
 | ind u ih =>
  intro hu
  rw [kG.f_eq, Lib.decDigits]
  by_cases h : u < 10
  ·rw [dif_pos h]
   simp (disch := omega) only [ss]
   rw [dK1 h]
  ·rw [dif_neg h]
   have e1 : Int.tdiv (u : Int) 10 = ((u / 10 : Nat) : Int) := by rw [td10 (by omega)]; omega
   have e2 : Int.tmod (u : Int) 10 = ((u % 10 : Nat) : Int) := by rw [tm10 (by omega)]; omega
   have h1 := ih (u / 10) (by omega) (by omega)
   have h2 := eA1 (u / 10) (by omega)
   simp (disch := omega) only [ss, e1, e2, h1, szS, dK1 (show u % 10 < 10 by omega), wG2]
   rw [sH]
theorem gW1 (n : Int) (h0 : -9223372036854775808 ≤ n) (h1 : n ≤ 9223372036854775807) : kG.f n = some (mkS (Lib.itoa n), ()) := by
 by_cases hn : n < 0
 ·rw [tF hn, Lib.decDigits, kG.f_eq]
  have e1 : Int.tdiv n 10 = -((n.natAbs / 10 : Nat) : Int) := by rw [cC2 (by omega)]; omega
  have e2 : Int.tmod n 10 = -((n.natAbs % 10 : Nat) : Int) := by rw [rE2 (by omega)]; omega
  have e3 : (48 : Int) - -((n.natAbs % 10 : Nat) : Int) = 48 + ((n.natAbs % 10 : Nat) : Int) := by omega
  have hm : (⟨#[45]⟩ : ByteArray) = mkS [45] := rfl
  by_cases h : n.natAbs < 10
  ·have e4 : n.natAbs / 10 = 0 := by omega
   rw [dif_pos h]
   simp (disch := omega) only [ss, e1, e2, e3, hm, szS, dK1 (show n.natAbs % 10 < 10 by omega), wG2]
   rw [sH, vJ2 h]
   rfl
  ·have e5 : w6 (0 - w6 (-((n.natAbs / 10 : Nat) : Int))) = ((n.natAbs / 10 : Nat) : Int) := by simp (disch := omega) only [ss]; omega
   have h1 := nS1 (n.natAbs / 10) (by omega)
   have h2 := eA1 (n.natAbs / 10) (by omega)
   have e6 : ¬ (-((n.natAbs / 10 : Nat) : Int)) = 0 := by omega
   rw [dif_neg h]
   rw [e1, e2, e5, h1]
   simp (disch := omega) only [ss, e3, hm, szS, dK1 (show n.natAbs % 10 < 10 by omega), wG2, sH, pG2]
   rfl
 ·obtain ⟨u, rfl⟩ := zH2 (show 0 ≤ n by omega)
  rw [nS1 u h1, yE hn]
  rfl
theorem cK (n : Int) (h0 : -9223372036854775808 ≤ n) (h1 : n ≤ 9223372036854775807) : sC.f n = some (mkS (Lib.itoa n), ()) := by
 rw [sC.f_sem]
 show jY1 n = _
 unfold jY1
 rw [dp h0, dp h1, cond_true, cond_true, fI1 h0 h1]
 rfl
theorem bB1 (s : List UInt8) (hs : s.length ≤ 1000000) : sF.f (mkS s) = some ((xJ (mkS s)).1, (xJ (mkS s)).2, ()) := by
 rw [sF.f_sem]
 show uZ1 (mkS s) = _
 unfold uZ1
 rw [dp (by rw [szS]; omega), cond_true]
theorem bJ1 (s : ByteArray) : -9223372036854775808 ≤ (xJ s).1 ∧ (xJ s).1 ≤ 9223372036854775807 := by
 unfold xJ
 cases h : Lib.atoiAll s.data.toList with
 | ok v => exact Lib.atoiAll_bounds h
 | range => exact Lib.atoiSat_bounds _
 | _ => exact ⟨by show (-9223372036854775808 : Int) ≤ 0; omega, by show (0 : Int) ≤ 9223372036854775807; omega⟩
theorem gR (s : List UInt8) (hs : s.length ≤ 1000000) : wD.f (mkS s) ⟨#[45]⟩ = some (mkS (if s.head? = some 45 then s.tail else s), ()) := by
 have hp : oC.f (mkS s) ⟨#[45]⟩ = some (decide (s.head? = some 45), ()) := bW s 45
 rw [wD.f_eq, zE.f_eq, hp]
 have hz : (⟨#[45]⟩ : ByteArray).size = 1 := rfl
 by_cases h : s.head? = some 45
 ·have h1 : 0 < s.length := by cases s with
   | nil => simp at h
   | cons _ _ => simp
  simp (disch := omega) only [ss, hz, szS, if_pos h, hJ2]
  rw [show (mkS s).extract 1 s.length = mkS s.tail from nI (by rw [← szS s, dM, B_mk, B_mk, List.drop_one])]
 ·simp (disch := omega) only [ss, if_neg h]
theorem wJ (s : List UInt8) (hs : s.length ≤ 1000000) :
  (∃ n, isN s n ∧ uD.f (mkS s) = some (n, true, ())) ∨ ((∀ n, ¬ isN s n) ∧ ∃ n, uD.f (mkS s) = some (n, false, ())) := by
 have hr := bJ1 (mkS s)
 have hA := bB1 s hs
 rw [uD.f_eq, hA]
 simp only [qG2]
 have small : ∀ n, isN s n → xJ (mkS s) = (n, true) := by
  rintro n ⟨rfl, h0, h1⟩
  unfold xJ
  rw [show (mkS (Lib.itoa n)).data.toList = Lib.itoa n from rfl, oX h0 h1]
 generalize hp : xJ (mkS s) = p at hr small
 obtain ⟨n, b⟩ := p
 simp only at hr small ⊢
 cases b with
 | false => exact .inr ⟨fun m hm => (by have := small m hm; cases this), n, rfl⟩
 | true =>
  have hI := cK n hr.1 hr.2
  have hT := gR s hs
  rw [cond_true, hI]
  simp only [qG2, kE]
  by_cases he : mkS (Lib.itoa n) = mkS s
  ·have he' := xM he
   rw [dp he, cond_true, hT]
   simp only [qG2, szS]
   have hl : ((if s.head? = some 45 then s.tail else s).length : Int) = (Lib.itoa n).length - (if n < 0 then 1 else 0) := by
    rw [← he']
    by_cases hn : n < 0
    ·rw [tF hn, if_pos hn, if_pos (show (45 :: Lib.decDigits n.natAbs).head? = some 45 from rfl)]
     simp
    ·rw [yE hn, if_neg hn, if_neg]
     ·simp
     ·intro q
      cases hD : Lib.decDigits n.toNat with
      | nil => exact D_ne _ hD
      | cons c r =>
       rw [hD] at q
       simp at q
       have := (rY hD).2
       rw [q] at this
       exact this rfl
   rw [hl]
   by_cases h9 : -999999999 ≤ n ∧ n ≤ 999999999
   ·rw [dp ((mB1 n).2 h9)]
    exact .inl ⟨n, ⟨he'.symm, h9⟩, rfl⟩
   ·rw [dn fun q => h9 ((mB1 n).1 q)]
    refine .inr ⟨fun m hm => ?_, n, rfl⟩
    have := small m hm
    simp only [Prod.mk.injEq, and_true] at this
    subst this
    exact h9 hm.2
  ·rw [dn he, cond_false]
   refine .inr ⟨fun m hm => ?_, n, rfl⟩
   have := small m hm
   simp only [Prod.mk.injEq, and_true] at this
   subst this
   exact he (by rw [hm.1])
theorem dR1 (s : List UInt8) (m : Int) (h0 : -9223372036854775808 ≤ m) (h1 : m ≤ 9223372036854775807) : rA.l6 (mkS s) m = some (m, decide (s = Lib.itoa m), ()) := by
 rw [rA.l6_eq, gW1 m h0 h1]
 simp only [qG2, kE]
 rw [show decide (mkS (Lib.itoa m) = mkS s) = decide (s = Lib.itoa m) from decide_eq_decide.2 ⟨fun h => (xM h).symm, fun h => by rw [← h]⟩]
def fN1 (s : List UInt8) (r : Option (Int × Bool × Unit)) : Prop := ∃ m b, r = some (m, b, ()) ∧ -9223372036854775808 ≤ m ∧ m ≤ 9223372036854775807 ∧ (b = true → s = Lib.itoa m)
theorem aC2 (s : List UInt8) (neg : Bool) (d : List UInt8) (hd : d.length ≤ 19) : ∀ (k i v : Nat), d.length - i = k → i ≤ d.length → v ≤ 9223372036854775808 →
  fN1 s (rA.l4 (mkS s) neg (mkS d) (-(v : Int)) i) ∧
  ((∀ c ∈ d.drop i, dig c) → dval v (d.drop i) ≤ 999999999 → rA.l4 (mkS s) neg (mkS d) (-(v : Int)) i = rA.l6 (mkS s) (if neg = true then -(dval v (d.drop i) : Int) else dval v (d.drop i))) := by
 have fail : ∀ m : Int, m = 0 → fN1 s (some (m, false, ())) := fun m hm => ⟨m, false, rfl, by omega, by omega, by simp⟩
 have good : ∀ m : Int, -9223372036854775808 ≤ m → m ≤ 9223372036854775807 → fN1 s (rA.l6 (mkS s) m) := fun m h0 h1 => ⟨m, _, dR1 s m h0 h1, h0, h1, fun h => of_decide_eq_true h⟩
 intro k
 induction k with
 | zero =>
  intro i v hk hi hv
  have e : i = d.length := by omega
  subst e
  rw [rA.l4_eq, gI2]
  simp (disch := omega) only [ss, szS]
  cases neg with
  | true =>
   simp (disch := omega) only [ss]
   exact ⟨good _ (by omega) (by omega), fun _ _ => rfl⟩
  | false =>
   simp (disch := omega) only [ss]
   by_cases hm : (-(v : Int)) = -9223372036854775808
   ·simp (disch := omega) only [ss]
    refine ⟨fail 0 rfl, fun _ hq => absurd hm ?_⟩
    have hq : v ≤ 999999999 := hq
    clear hm hv good fail
    omega
   ·simp (disch := omega) only [ss]
    have e2 : (0 : Int) - -(v : Int) = v := by omega
    rw [e2]
    exact ⟨good _ (by omega) (by omega), fun _ _ => rfl⟩
 | succ k ih =>
  intro i v hk hi hv
  have hlt : i < d.length := by omega
  have hbt : bt (mkS d) (i : Int) = ((d.getD i 0).toNat : Int) := uM (mkS d) i
  have hc := tC2 (d.getD i 0)
  rw [rA.l4_eq, iC 0 hlt]
  simp (disch := omega) only [ss, szS, hbt]
  by_cases c1 : ((d.getD i 0).toNat : Int) - 48 < 0
  ·simp (disch := omega) only [ss, rA.l5_eq]
   refine ⟨fail 0 rfl, fun hq => ?_⟩
   have := hq _ uG2
   unfold dig at this
   omega
  ·by_cases c2 : ((d.getD i 0).toNat : Int) - 48 > 9
   ·simp (disch := omega) only [ss, rA.l5_eq]
    refine ⟨fail 0 rfl, fun hq => ?_⟩
    have := hq _ uG2
    unfold dig at this
    omega
   ·have e1 : Int.tdiv (-9223372036854775808 + (((d.getD i 0).toNat : Int) - 48)) 10 = -((9223372036854775808 - (((d.getD i 0).toNat : Int) - 48)) / 10) := by
     rw [cC2 (by omega)]
     congr 2
     omega
    simp (disch := omega) only [ss, e1]
    by_cases c3 : -(v : Int) < -((9223372036854775808 - (((d.getD i 0).toNat : Int) - 48)) / 10)
    ·simp (disch := omega) only [ss, rA.l5_eq]
     refine ⟨fail 0 rfl, fun hq hv2 => ?_⟩
     have h1 := uH1 (d.drop (i + 1)) (10 * v + ((d.getD i 0).toNat - 48))
     have hv2 : dval (10 * v + ((d.getD i 0).toNat - 48)) (d.drop (i + 1)) ≤ 999999999 := hv2
     omega
    ·have e2 : (10 : Int) * -(v : Int) - (((d.getD i 0).toNat : Int) - 48) = -((10 * v + ((d.getD i 0).toNat - 48) : Nat) : Int) := by omega
     simp (disch := omega) only [ss, rA.l5_eq]
     rw [e2]
     obtain ⟨h1, h2⟩ := ih (i + 1) (10 * v + ((d.getD i 0).toNat - 48)) (by omega) (by omega) (by omega)
     exact ⟨h1, fun hq hv2 => h2 (fun c hc => hq c (tG2 _ hc)) hv2⟩
theorem rQ1 (s : List UInt8) (neg : Bool) (d : List UInt8) : fN1 s (rA.l2 (mkS s) neg (mkS d)) ∧
  ((∀ c ∈ d, dig c) → 0 < d.length → d.length ≤ 19 → dval 0 d ≤ 999999999 → rA.l2 (mkS s) neg (mkS d) = rA.l6 (mkS s) (if neg = true then -(dval 0 d : Int) else dval 0 d)) := by
 have fail : fN1 s (some (0, false, ())) := ⟨0, false, rfl, by omega, by omega, by simp⟩
 rw [rA.l2_eq]
 by_cases c1 : (d.length : Int) < 1
 ·simp (disch := omega) only [ss, szS, rA.l3_eq]
  exact ⟨fail, fun _ h => by omega⟩
 ·by_cases c2 : (d.length : Int) > 19
  ·simp (disch := omega) only [ss, szS, rA.l3_eq]
   exact ⟨fail, fun _ _ h => by omega⟩
  ·simp (disch := omega) only [ss, szS, rA.l3_eq]
   obtain ⟨h1, h2⟩ := aC2 s neg d (by omega) _ 0 0 rfl (aH2 _) (by omega)
   rw [eH2, Int.neg_zero] at h1 h2
   rw [yH2] at h2
   exact ⟨h1, fun q1 _ _ q2 => h2 q1 q2⟩
theorem mV1 (s : List UInt8) : fN1 s (rA.f (mkS s)) ∧ ∀ n, isN s n → rA.f (mkS s) = some (n, true, ()) := by
 have hbt : bt (mkS s) 0 = ((s.getD 0 0).toNat : Int) := uM (mkS s) 0
 cases s with
 | nil =>
  have h0 := rQ1 [] false []
  rw [rA.f_eq]
  simp (disch := omega) only [ss, szS, aI2, eH2, rA.l1_eq]
  refine ⟨h0.1, fun n hn => ?_⟩
  obtain ⟨h1, _⟩ := hn
  unfold Lib.itoa at h1
  split at h1
  ·cases h1
  ·exact absurd h1.symm (D_ne _)
 | cons c r =>
  have hg : (c :: r).getD 0 0 = c := rfl
  rw [hg] at hbt
  rw [rA.f_eq]
  by_cases hc : (c.toNat : Int) = 45
  ·have e1 : (mkS (c :: r)).extract 1 (r.length + 1) = mkS r := nI (by rw [show r.length + 1 = (mkS (c :: r)).size by rw [szS]; rfl, dM, B_mk, B_mk]; rfl)
   have h0 := rQ1 (c :: r) true r
   have h45 : c = 45 := (qC2 c 45 (by decide)).1 (show (c.toNat : Int) = ((45 : Nat) : Int) from hc)
   simp (disch := omega) only [ss, szS, vG2, hbt, rA.l1_eq, e1]
   refine ⟨h0.1, fun n hn => ?_⟩
   obtain ⟨h1, h2, h3⟩ := hn
   by_cases hneg : n < 0
   ·rw [tF hneg] at h1
    have hr := (rJ2 h1).2
    have h9 := (eL n.natAbs).2 (by omega)
    rw [h0.2 (by rw [hr]; exact eV _) (by rw [hr]; exact vQ1 _) (by rw [hr]; omega) (by rw [hr, iM]; omega), if_pos rfl, hr, iM, dR1 _ _ (by omega) (by omega)]
    have e2 : -((n.natAbs : Nat) : Int) = n := by omega
    rw [e2, dp (by rw [tF hneg, h45])]
   ·rw [yE hneg] at h1
    exact absurd (by rw [h45]; rfl) (rY h1.symm).2
  ·have h0 := rQ1 (c :: r) false (c :: r)
   simp (disch := omega) only [ss, szS, vG2, hbt, rA.l1_eq]
   refine ⟨h0.1, fun n hn => ?_⟩
   obtain ⟨h1, h2, h3⟩ := hn
   by_cases hneg : n < 0
   ·rw [tF hneg] at h1
    have := (rJ2 h1).1
    subst this
    exact absurd rfl hc
   ·rw [yE hneg] at h1
    have h9 := (eL n.toNat).2 (by omega)
    rw [h0.2 (by rw [h1]; exact eV _) (by rw [h1]; exact vQ1 _) (by rw [h1]; omega) (by rw [h1, iM]; omega), if_neg (by simp), dR1 _ _ (by omega) (by rw [h1, iM]; omega)]
    have e2 : ((dval 0 (c :: r) : Nat) : Int) = n := by rw [h1, iM]; omega
    rw [e2, dp (by rw [yE hneg, h1])]
theorem mI (s : List UInt8) (hs : s.length ≤ 1000000) :
  (∃ n, isN s n ∧ eD.f (mkS s) = some (n, true, ())) ∨ ((∀ n, ¬ isN s n) ∧ ∃ n, eD.f (mkS s) = some (n, false, ())) := by
 obtain ⟨⟨m, b, h1, h2, h3, h4⟩, h5⟩ := mV1 s
 by_cases hn : ∃ n, isN s n
 ·obtain ⟨n, hn⟩ := hn
  have h6 := h5 n hn
  have h7 := (mB1 n).2 hn.2
  rw [← hn.1] at h7
  refine .inl ⟨n, hn, ?_⟩
  rw [eD.f_eq, h6]
  by_cases c1 : n < 0
  ·rw [if_pos c1] at h7
   simp (disch := omega) only [ss, szS]
  ·rw [if_neg c1] at h7
   simp (disch := omega) only [ss, szS]
 ·refine .inr ⟨fun n h => hn ⟨n, h⟩, m, ?_⟩
  rw [eD.f_eq, h1]
  cases b with
  | false =>
   by_cases c1 : m < 0
   ·simp (disch := omega) only [ss]
   ·simp (disch := omega) only [ss]
  | true =>
   have he := h4 rfl
   have h7 : ¬ ((s.length : Int) - (if m < 0 then 1 else 0) ≤ 9) := fun q => hn ⟨m, he, (mB1 m).1 (by rw [← he]; exact q)⟩
   by_cases c1 : m < 0
   ·rw [if_pos c1] at h7
    simp (disch := omega) only [ss, szS]
   ·rw [if_neg c1] at h7
    simp (disch := omega) only [ss, szS]
def chr (l : List UInt8) (i : Nat) : Nat := (l.getD i 0).toNat
def plB (c : Nat) : Bool := decide (32 ≤ c) && decide (c ≤ 126)
def bR (l : List UInt8) (i : Nat) : Bool := decide (chr l i = 10) || (decide (chr l i = 13) && (decide (i + 1 < l.length) && decide (chr l (i + 1) = 10)))
def bad (l : List UInt8) (i : Nat) : Bool := (!plB (chr l i) && !bR l i) || (decide (i = 0) && decide (chr l i = 32))
theorem aE2 (l : List UInt8) (i : Nat) : (I l).getD i 0 = (chr l i : Int) := zB2 l i
theorem iK1 (c : Nat) : dJ.f (c : Int) = some (plB c, ()) := by
 rw [dJ.f_eq]
 by_cases h : 32 ≤ c
 ·simp (disch := omega) only [ss, plB, Bool.true_and]
  by_cases h2 : c ≤ 126 <;> simp (disch := omega) only [ss]
 ·simp (disch := omega) only [ss, plB, Bool.false_and]
theorem xQ (l : List UInt8) (i : Nat) (hi : i < l.length) (hl : l.length < 4611686018427387904) :
  mB.l1 (I l) (I l) (l.length : Int) i = if bad l i = true then some ((i : Int), ()) else mB.l1 (I l) (I l) (l.length : Int) ((i + 1 : Nat) : Int) := by
 obtain ⟨X, hX⟩ : ∃ X, X = (if bad l i = true then some ((i : Int), ()) else mB.l1 (I l) (I l) (l.length : Int) ((i + 1 : Nat) : Int)) := ⟨_, rfl⟩
 rw [← hX]
 have h3 : ∀ b : Bool, b = bad l i → mB.l3 (I l) i (I l) (l.length : Int) i b = X := by
  rintro b rfl
  rw [mB.l3_eq, hX]
  cases bad l i
  ·simp (disch := omega) only [ss, Int.natCast_add, hJ2]
   rfl
  ·rfl
 have key : ∀ e : Bool, e = bR l i → mB.l2 (I l) i (chr l i) e (I l) (l.length : Int) i = X := by
  rintro e rfl
  rw [mB.l2_eq, iK1]
  simp only [qG2]
  cases hp : plB (chr l i) with
  | true =>
   by_cases h0 : i = 0
   ·by_cases hc : chr l i = 32
    ·simp (disch := omega) only [ss]
     exact h3 true (by unfold bad; simp (disch := omega) only [ss, hp])
    ·simp (disch := omega) only [ss]
     exact h3 false (by unfold bad; simp (disch := omega) only [ss, hp])
   ·simp (disch := omega) only [ss]
    exact h3 false (by unfold bad; simp (disch := omega) only [ss, hp])
  | false =>
   cases he : bR l i with
   | false =>
    simp (disch := omega) only [ss]
    exact h3 true (by unfold bad; simp (disch := omega) only [ss, hp, he])
   | true =>
    by_cases h0 : i = 0
    ·by_cases hc : chr l i = 32
     ·simp (disch := omega) only [ss]
      exact h3 true (by unfold bad; simp (disch := omega) only [ss, hp, he])
     ·simp (disch := omega) only [ss]
      exact h3 false (by unfold bad; simp (disch := omega) only [ss, hp, he])
    ·simp (disch := omega) only [ss]
     exact h3 false (by unfold bad; simp (disch := omega) only [ss, hp, he])
 rw [mB.l1_eq]
 simp (disch := omega) only [ss, qU, aE2]
 by_cases h10 : chr l i = 10
 ·simp (disch := omega) only [ss]
  exact key true (by unfold bR; simp (disch := omega) only [ss, Bool.true_or])
 ·simp (disch := omega) only [ss]
  by_cases h13 : chr l i = 13
  ·simp (disch := omega) only [ss]
   by_cases hn : i + 1 < l.length
   ·have hw : ((i : Int) + 1).toNat = i + 1 := by omega
    simp (disch := omega) only [ss, hw, aE2]
    by_cases hc : chr l (i + 1) = 10
    ·simp (disch := omega) only [ss]
     exact key true (by unfold bR; simp (disch := omega) only [ss, Bool.true_and, Bool.or_true])
    ·simp (disch := omega) only [ss]
     exact key false (by unfold bR; simp (disch := omega) only [ss, Bool.true_and, Bool.or_false])
   ·simp (disch := omega) only [ss]
    exact key false (by unfold bR; simp (disch := omega) only [ss, Bool.true_and, Bool.false_and, Bool.or_false])
  ·simp (disch := omega) only [ss]
   exact key false (by unfold bR; simp (disch := omega) only [ss, Bool.false_and, Bool.or_false])
theorem iL1 {l : List UInt8} (hl : l.length < 4611686018427387904) (h : ∀ i, i < l.length → bad l i = false) : mB.f (I l) = some (-1, ()) := by
 rw [mB.f_eq, qU]
 have := wQ (fun i : Nat => mB.l1 (I l) (I l) (l.length : Int) i) (k := l.length) (i := 0) (aH2 _) fun j _ hj => by
  rw [xQ l j hj hl, if_neg (by rw [h j hj]; decide)]
 refine this.trans ?_
 show mB.l1 (I l) (I l) (l.length : Int) ((l.length : Nat) : Int) = _
 rw [mB.l1_eq]
 simp (disch := omega) only [ss]
theorem sO1 {l : List UInt8} (hl : l.length < 4611686018427387904) {k : Nat} (hk : k < l.length) (hb : bad l k = true) (h : ∀ i, i < k → bad l i = false) : mB.f (I l) = some ((k : Int), ()) := by
 rw [mB.f_eq, qU]
 have := wQ (fun i : Nat => mB.l1 (I l) (I l) (l.length : Int) i) (k := k) (i := 0) (aH2 _) fun j _ hj => by
  rw [xQ l j (by omega) hl, if_neg (by rw [h j hj]; decide)]
 refine this.trans ?_
 show mB.l1 (I l) (I l) (l.length : Int) ((k : Nat) : Int) = _
 rw [xQ l k hk hl, if_pos hb]
def lH (s : List UInt8) : List UInt8 := if s.getLast? = some 13 then s.dropLast else s
def glue (acc : List (List UInt8)) (t : List UInt8) : List (List UInt8) := if t.head? = some 32 then acc.dropLast ++ [acc.getLast?.getD [] ++ t.tail] else acc ++ [t]
def sK (acc raw : List (List UInt8)) : List (List UInt8) := raw.foldl (fun acc s => glue acc (lH s)) acc
def wE (l : List UInt8) : List (List UInt8) := if (segs 10 l).getLast? = some [] then (segs 10 l).dropLast else segs 10 l
def totF (l : List (List UInt8)) : Nat := (l.map List.length).sum
theorem aJ (a b : List (List UInt8)) : totF (a ++ b) = totF a + totF b := by simp [totF]
theorem tL (a : List UInt8) (b : List (List UInt8)) : totF (a :: b) = a.length + totF b := by simp [totF]
theorem uB1 (s : List UInt8) : (lH s).length ≤ s.length := by
 unfold lH
 split
 ·simp
 ·exact zG2 _
theorem fH1 {l : List UInt8} (h : 10 ∉ l) : wE l = if l = [] then [] else [l] := by
 unfold wE
 rw [eI h]
 by_cases hl : l = [] <;> simp [hl]
theorem yV {a b : List UInt8} (h : 10 ∉ a) : wE (a ++ 10 :: b) = a :: wE b := by
 unfold wE
 rw [jI h]
 have hne := oW 10 b
 cases hs : segs 10 b with
 | nil => exact absurd hs hne
 | cons x xs =>
  rw [List.getLast?_cons_cons]
  split
  ·rw [List.dropLast_cons_of_ne_nil (by simp)]
  ·rfl
theorem eW (c : UInt8) : ∀ l, totF (segs c l) + (segs c l).length = l.length + 1
 | [] => by simp [segs, totF]
 | b :: l => by
  have ih := eW c l
  have hne := oW c l
  simp only [segs]
  split
  ·rw [tL]; simp; omega
  ·cases hs : segs c l with
   | nil => exact absurd hs hne
   | cons x xs =>
    rw [hs] at ih
    rw [tL] at ih ⊢
    simp at ih ⊢
    omega
theorem eY (l : List UInt8) : totF (wE l) + (wE l).length ≤ l.length + 1 := by
 have h := eW 10 l
 unfold wE
 split
 ·rename_i hl
  rcases yJ2 (segs 10 l) with he | ⟨x, y, he⟩
  ·rw [he] at hl; cases hl
  ·rw [List.concat_eq_append] at he
   rw [he] at h ⊢
   rw [List.dropLast_concat]
   rw [aJ] at h
   simp at h
   omega
 ·omega
theorem pF1 (acc : List (List UInt8)) (b : List UInt8) : (((acc ++ [b]).map mkS).getD acc.length ByteArray.empty) = mkS b := by
 simp [rG2]
theorem fM1 (raw : List (List UInt8)) (i : Nat) (hi : i < raw.length) (acc : List (List UInt8)) (hz : totF acc + (raw.getD i []).length < 100000) (hl : acc.length < 100000) (hr : raw.length < 100000) (hacc : acc = [] → (lH (raw.getD i [])).head? ≠ some 32) :
  cC.l2 (raw.map mkS) (raw.length : Int) i (acc.map mkS) = cC.l2 (raw.map mkS) (raw.length : Int) ((i + 1 : Nat) : Int) ((glue acc (lH (raw.getD i []))).map mkS) := by
 obtain ⟨X, hX⟩ : ∃ X, X = cC.l2 (raw.map mkS) (raw.length : Int) ((i + 1 : Nat) : Int) ((glue acc (lH (raw.getD i []))).map mkS) := ⟨_, rfl⟩
 rw [← hX, cC.l2_eq]
 have hz2 := uB1 (raw.getD i [])
 simp (disch := omega) only [ss, yG2]
 rw [cP mkS raw i [] _ hi, show (⟨#[13]⟩ : ByteArray) = mkS [13] from rfl, show (⟨#[32]⟩ : ByteArray) = mkS [32] from rfl, cX _ _ (by omega)]
 simp (disch := omega) only [ss]
 rw [show (if (raw.getD i []).getLast? = some 13 then (raw.getD i []).dropLast else raw.getD i []) = lH (raw.getD i []) from rfl, lB1]
 generalize lH (raw.getD i []) = t at *
 by_cases ht : t.head? = some 32
 ·rw [dp ht]
  rcases yJ2 acc with rfl | ⟨a, b, he⟩
  ·exact absurd ht (hacc rfl)
  ·rw [List.concat_eq_append] at he
   subst he
   have hlen : (a ++ [b]).length = a.length + 1 := by simp
   obtain ⟨t', rfl⟩ : ∃ t', t = 32 :: t' := by cases t with
    | nil => cases ht
    | cons x y => simp at ht; exact ⟨y, by rw [ht]⟩
   rw [aJ, tL] at hz
   have hlt : (32 :: t').length = t'.length + 1 := rfl
   have e1 : (mkS (32 :: t')).extract 1 (mkS (32 :: t')).size = mkS t' := nI (by rw [dM]; rfl)
   have hw : w6 (((a.length + 1 : Nat) : Int) - 1) = (a.length : Int) := by rw [wr (by omega) (by omega)]; omega
   rw [hlen, Nat.add_sub_cancel, e1, pF1, sH]
   simp (disch := omega) only [ss, szS, hlt]
   rw [hX]
   unfold glue
   rw [if_pos ht]
   simp [List.set_append_right]
 ·rw [dn ht]
  have hlim : vC = 17179869184 := rfl
  simp (disch := omega) only [ss, vG2, aI2]
  rw [hX]
  unfold glue
  rw [if_neg ht]
  simp
theorem jK1 (acc : List (List UInt8)) (t : List UInt8) : totF (glue acc t) ≤ totF acc + t.length ∧ (glue acc t).length ≤ acc.length + 1 ∧ glue acc t ≠ [] := by
 unfold glue
 split
 ·rcases yJ2 acc with rfl | ⟨a, b, he⟩
  ·simp [totF]
  ·rw [List.concat_eq_append] at he
   subst he
   rw [List.dropLast_concat, aJ, aJ]
   simp [totF]
   omega
 ·rw [aJ]
  simp [totF]
theorem iW1 (raw : List (List UInt8)) (hr : raw.length < 50000) : ∀ (k i : Nat) (acc : List (List UInt8)), raw.length - i = k → i ≤ raw.length → totF acc + totF (raw.drop i) < 50000 → acc.length + k < 60000 → (acc = [] → ∀ s, raw[i]? = some s → (lH s).head? ≠ some 32) →
  cC.l2 (raw.map mkS) (raw.length : Int) i (acc.map mkS) = some ((sK acc (raw.drop i)).map mkS, 0, 0, ()) := by
 intro k
 induction k with
 | zero =>
  intro i acc hk hi _ _ _
  have e : i = raw.length := by omega
  subst e
  rw [cC.l2_eq, gI2]
  simp (disch := omega) only [ss]
  rfl
 | succ k ih =>
  intro i acc hk hi ht hl hacc
  have hlt : i < raw.length := by omega
  have hg : raw[i]? = some (raw.getD i []) := by simp [rG2, hlt]
  have hd := jW raw i [] hlt
  rw [hd, tL] at ht
  rw [fM1 raw i hlt acc (by omega) (by omega) (by omega) (fun h => hacc h _ hg)]
  obtain ⟨g1, g2, g3⟩ := jK1 acc (lH (raw.getD i []))
  have g4 := uB1 (raw.getD i [])
  rw [ih (i + 1) (glue acc (lH (raw.getD i []))) (by omega) (by omega) (by omega) (by omega) (fun h => absurd h g3), hd]
  rfl
theorem cG1 {l : List UInt8} (h : 4096 < l.length) : cC.f (I l) = some ([], 0, 3, ()) := by
 rw [cC.f_eq, qU]
 simp (disch := omega) only [ss]
theorem hN1 {l : List UInt8} (hl : l.length ≤ 4096) {k : Nat} (hk : k < l.length) (hb : bad l k = true) (h : ∀ i, i < k → bad l i = false) : cC.f (I l) = some ([], (k : Int), 4, ()) := by
 rw [cC.f_eq, qU, sO1 (by omega) hk hb h]
 simp (disch := omega) only [ss]
theorem wG1 {l : List UInt8} (h : ∀ i, i < l.length → bad l i = false) : ∀ s, (wE l)[0]? = some s → (lH s).head? ≠ some 32 := by
 have key : ∀ s r, l = s ++ r → (lH s).head? ≠ some 32 := by
  intro s r e hh
  have h1 : s.head? = some 32 := by
   unfold lH at hh
   split at hh
   ·cases s with
    | nil => cases hh
    | cons x y => cases y with
     | nil => cases hh
     | cons z w => simpa using hh
   ·exact hh
  cases s with
  | nil => cases h1
  | cons x y =>
   simp at h1
   subst h1
   have := h 0 (by rw [e]; simp)
   rw [e] at this
   simp [bad, chr] at this
 intro s hs
 rcases oK (c := 10) (l := l) with h1 | ⟨a, b, h2, h3⟩
 ·rw [fH1 h1] at hs
  by_cases hl : l = []
  ·simp [hl] at hs
  ·simp [hl] at hs
   exact key s [] (by simp [hs])
 ·rw [h2, yV h3] at hs
  simp at hs
  exact key s (10 :: b) (by rw [h2, hs])
theorem nO {l : List UInt8} (hl : l.length ≤ 4096) (h : ∀ i, i < l.length → bad l i = false) : cC.f (I l) = some ((sK [] (wE l)).map mkS, 0, 0, ()) := by
 have hne := oW 10 l
 have htot := eW 10 l
 have hpt := eY l
 have hfin : cC.l1 ((wE l).map mkS) = some ((sK [] (wE l)).map mkS, 0, 0, ()) := by
  rw [cC.l1_eq, yG2]
  have := iW1 (wE l) (by omega) (wE l).length 0 [] rfl (aH2 _) (by rw [yH2]; simp only [totF, List.map_nil, List.sum_nil]; unfold totF at hpt; omega) (by simp; omega) (fun _ => wG1 h)
  rw [yH2] at this
  exact this
 rw [cC.f_eq, qU, iL1 (by omega) h, uF1, show (⟨#[10]⟩ : ByteArray) = mkS [10] from rfl, show (⟨#[]⟩ : ByteArray) = mkS [] from rfl]
 simp (disch := omega) only [ss]
 rw [lJ l (by omega)]
 rcases yJ2 (segs 10 l) with he | ⟨x, y, he⟩
 ·exact absurd he hne
 ·rw [List.concat_eq_append] at he
  have hp : wE l = if y = [] then x else x ++ [y] := by
   unfold wE
   rw [he]
   simp
  have hlen : ((x ++ [y]).map mkS).length = x.length + 1 := by simp
  rw [he] at htot ⊢
  rw [aJ] at htot
  simp at htot
  have hw : w6 (((x.length + 1 : Nat) : Int) - 1) = (x.length : Int) := by rw [wr (by omega) (by omega)]; omega
  simp (disch := omega) only [ss, hlen, hw]
  rw [pF1, kE]
  by_cases hy : y = []
  ·subst hy
   rw [if_pos rfl] at hp
   rw [hp] at hfin ⊢
   simp (disch := omega) only [ss]
   have e3 : (((x ++ [([] : List UInt8)]).map mkS).take x.length : List ByteArray) = x.map mkS := by simp
   rw [e3]
   exact hfin
  ·rw [if_neg hy] at hp
   rw [hp] at hfin ⊢
   rw [dn (fun e => hy (by have := congrArg B e; simpa [B_mk] using this))]
   exact hfin
theorem mE1 (l : List UInt8) : 4096 < l.length ∨ (l.length ≤ 4096 ∧ ∃ k, k < l.length ∧ bad l k = true ∧ ∀ i, i < k → bad l i = false) ∨ (l.length ≤ 4096 ∧ ∀ i, i < l.length → bad l i = false) := by
 by_cases h : 4096 < l.length
 ·exact .inl h
 ·rcases bU (bad l) l.length with h1 | ⟨k, h1, h2, h3⟩
  ·exact .inr (.inr ⟨by omega, h1⟩)
  ·exact .inr (.inl ⟨by omega, k, h1, h2, h3⟩)
def allP (l : List UInt8) : Prop := ∀ c ∈ l, 33 ≤ c.toNat ∧ c.toNat ≤ 126
theorem lP1 {l : List UInt8} (h : allP l) : l.head? ≠ some 32 := fun e => by
 have := h 32 (List.mem_of_head? e)
 exact absurd this.1 (by decide)
def mayB (s : List UInt8) : Bool := (s.all fun c => plB c.toNat) && (!s.isEmpty && !decide (s.head? = some 32))
theorem uU1 (s : List UInt8) (i : Nat) (hi : i < s.length) (h : (s.take i).all (fun c => plB c.toNat) = true) (hc : plB (chr s i) = true) : (s.take (i + 1)).all (fun c => plB c.toNat) = true := by
 rw [List.take_add_one, List.all_append, h]
 have : s[i]? = some (s.getD i 0) := by simp [rG2, hi]
 rw [this]
 simp only [Option.toList, oI2, List.all_nil, qJ2, Bool.true_and]
 exact hc
theorem rR1 (s : List UInt8) (i : Nat) (hi : i < s.length) (hc : plB (chr s i) = false) : s.all (fun c => plB c.toNat) = false := by
 rw [List.all_eq_false]
 exact ⟨s.getD i 0, by rw [rG2, bH2 hi]; exact uJ2 hi, by
  have : plB (s.getD i 0).toNat = false := hc
  rw [this]
  exact Bool.false_ne_true⟩
theorem rJ1 (s : List UInt8) (hs : s ≠ []) : decide (s.head? = some 32) = decide ((chr s 0 : Int) = 32) := by
 cases s with
 | nil => exact absurd rfl hs
 | cons x y =>
  refine decide_eq_decide.2 ?_
  have := qC2 x 32 (by omega)
  simp only [List.head?_cons, Option.some.injEq]
  exact this.symm
theorem zR1 (s : List UInt8) (hs : s.length < 4611686018427387904) : mG.f (mkS s) = some (mayB s, ()) := by
 have key : ∀ (k i : Nat), s.length - i = k → i ≤ s.length → (s.take i).all (fun c => plB c.toNat) = true → mG.l1 (mkS s) (s.length : Int) (i : Int) = some (mayB s, ()) := by
  intro k
  induction k with
  | zero =>
   intro i hk hi h
   have e : i = s.length := by omega
   subst e
   rw [wJ2] at h
   rw [mG.l1_eq, kE, szS]
   unfold mayB
   rw [h]
   cases s with
   | nil => simp; rfl
   | cons x y =>
    have hne : mkS (x :: y) ≠ (⟨#[]⟩ : ByteArray) := fun e => by have := congrArg B e; cases this
    have hb : bt (mkS (x :: y)) 0 = (chr (x :: y) 0 : Int) := rfl
    rw [rJ1 _ (by simp), hb, dn hne]
    have : (x :: y).length = y.length + 1 := rfl
    simp (disch := omega) only [ss]
    rfl
  | succ k ih =>
   intro i hk hi h
   have hlt : i < s.length := by omega
   have hb : bt (mkS s) (i : Int) = (chr s i : Int) := rfl
   rw [mG.l1_eq, hb, iK1]
   cases hc : plB (chr s i) with
   | true =>
    simp (disch := omega) only [ss, szS]
    exact ih (i + 1) (by omega) (by omega) (uU1 s i hlt h hc)
   | false =>
    simp (disch := omega) only [ss, szS]
    unfold mayB
    rw [rR1 s i hlt hc]
    rfl
 rw [mG.f_eq, szS]
 exact key s.length 0 rfl (aH2 _) rfl
theorem lU1 (L : List (List UInt8)) (hl : L.length < 100000) (hs : ∀ s ∈ L, s.length < 100000) {k : Nat} (hk : k < L.length) (hb : mayB (L.getD k []) = false) (h : ∀ i, i < k → mayB (L.getD i []) = true) : kB.f (L.map mkS) = some ([], 4, ()) := by
 rw [kB.f_eq, yG2]
 have hlen : ∀ i, i < L.length → (L.getD i []).length < 100000 := fun i hi => hs _ (by rw [rG2, bH2 hi]; exact uJ2 hi)
 have := wQ (fun i : Nat => kB.l1 (L.map mkS) (L.map mkS) (L.length : Int) i) (k := k) (i := 0) (aH2 _) fun j _ hj => by
  have hlt : j < L.length := by omega
  have := hlen j hlt
  show kB.l1 (L.map mkS) (L.map mkS) (L.length : Int) (j : Nat) = _
  rw [kB.l1_eq]
  simp (disch := omega) only [ss, yG2]
  rw [cP mkS L j [] _ hlt, zR1 _ (by omega), h j hj]
  simp (disch := omega) only [ss, Int.natCast_add, hJ2]
 refine this.trans ?_
 have := hlen k hk
 show kB.l1 (L.map mkS) (L.map mkS) (L.length : Int) (k : Nat) = _
 rw [kB.l1_eq]
 simp (disch := omega) only [ss, yG2]
 rw [cP mkS L k [] _ hk, zR1 _ (by omega), hb]
 simp (disch := omega) only [ss]
theorem kP1 (L : List (List UInt8)) (hl : L.length < 100000) (hs : ∀ s ∈ L, s.length < 100000) (h : ∀ i, i < L.length → mayB (L.getD i []) = true) : kB.f (L.map mkS) = kB.l2 (L.map mkS) (L.length : Int) 0 [] := by
 rw [kB.f_eq, yG2]
 have hlen : ∀ i, i < L.length → (L.getD i []).length < 100000 := fun i hi => hs _ (by rw [rG2, bH2 hi]; exact uJ2 hi)
 have := wQ (fun i : Nat => kB.l1 (L.map mkS) (L.map mkS) (L.length : Int) i) (k := L.length) (i := 0) (aH2 _) fun j _ hj => by
  have := hlen j hj
  show kB.l1 (L.map mkS) (L.map mkS) (L.length : Int) (j : Nat) = _
  rw [kB.l1_eq]
  simp (disch := omega) only [ss, yG2]
  rw [cP mkS L j [] _ hj, zR1 _ (by omega), h j hj]
  simp (disch := omega) only [ss, Int.natCast_add, hJ2]
 refine this.trans ?_
 show kB.l1 (L.map mkS) (L.map mkS) (L.length : Int) (L.length : Nat) = _
 rw [kB.l1_eq]
 simp (disch := omega) only [ss, yG2]
def oH : Nat → Nat → List UInt8 → List UInt8
 | 0, _, s => s ++ [13, 10]
 | n + 1, w, s => if w < s.length then s.take w ++ 13 :: 10 :: 32 :: oH n 74 (s.drop w) else s ++ [13, 10]
def jE (L : List (List UInt8)) : List UInt8 := L.flatMap fun s => oH s.length 75 s
theorem ext0 (s : List UInt8) (w : Nat) : xD ((mkS s).extract 0 w) = I (s.take w) := by rw [kR1, dQ, B_mk]
theorem exte (s : List UInt8) (w : Nat) : (mkS s).extract w s.length = mkS (s.drop w) := nI (by
 have := dM (mkS s) w
 rw [szS] at this
 rw [this]
 rfl)
theorem gZ1 (X : List ByteArray) (N : Int) (i : Nat) (hi : i < 100000) : ∀ (n : Nat) (s : List UInt8) (w : Nat) (y : List UInt8), s.length ≤ n → 1 ≤ w → w < 100 → y.length + 4 * s.length < 1000000 →
  kB.l3 (mkS s) (w : Int) X N (i : Int) (I y) = if 4096 < (y ++ oH n w s).length then some ([], 3, ()) else kB.l2 X N ((i + 1 : Nat) : Int) (I (y ++ oH n w s)) := by
 have hlim : vC = 17179869184 := rfl
 have hend : ∀ (s : List UInt8) (w : Nat) (y : List UInt8), s.length ≤ w → y.length + 4 * s.length < 1000000 →
   kB.l3 (mkS s) (w : Int) X N (i : Int) (I y) = if 4096 < (y ++ (s ++ [13, 10])).length then some ([], 3, ()) else kB.l2 X N ((i + 1 : Nat) : Int) (I (y ++ (s ++ [13, 10]))) := by
  intro s w y h1 h2
  have e : I y ++ I s ++ ([13, 10] : List Int) = I (y ++ (s ++ [13, 10])) := by simp [I]
  have e2 : (y ++ (s ++ [13, 10])).length = y.length + s.length + 2 := by simp; omega
  have hb : xD (mkS s) = I s := rfl
  have e6 : (I y ++ I s).length = y.length + s.length := by rw [← eD2, qU, pG2]
  rw [kB.l3_eq, hb, e]
  simp (disch := omega) only [ss, szS, qU, e6, e2, vG2, aI2]
  by_cases h : 4096 < (y ++ (s ++ [13, 10])).length
  ·rw [e2] at h
   rw [if_pos (by omega)]
   simp (disch := omega) only [ss]
  ·rw [e2] at h
   rw [if_neg (by omega)]
   simp (disch := omega) only [ss, Int.natCast_add, hJ2]
 intro n
 induction n with
 | zero =>
  intro s w y h1 h2 h3 h4
  exact hend s w y (by omega) h4
 | succ n ih =>
  intro s w y h1 h2 h3 h4
  unfold oH
  by_cases h : w < s.length
  ·rw [if_pos h]
   have e : I y ++ I (s.take w) ++ ([13, 10, 32] : List Int) = I (y ++ (s.take w ++ [13, 10, 32])) := by simp [I]
   have e3 : (s.take w).length = w := by simp; omega
   have e4 : (s.drop w).length = s.length - w := by simp
   have e2 : (y ++ (s.take w ++ [13, 10, 32])).length = y.length + w + 3 := by simp; omega
   have e6 : (I y ++ I (s.take w)).length = y.length + w := by rw [← eD2, qU, pG2, e3]
   rw [kB.l3_eq]
   simp (disch := omega) only [ss, szS, ext0, e, qU, e6, e2, e3, vG2, aI2]
   rw [exte]
   have := ih (s.drop w) 74 (y ++ (s.take w ++ [13, 10, 32])) (by omega) (by omega) (by omega) (by omega)
   rw [show ((74 : Nat) : Int) = 74 from rfl] at this
   rw [this]
   have e5 : y ++ (s.take w ++ [13, 10, 32]) ++ oH n 74 (s.drop w) = y ++ (s.take w ++ 13 :: 10 :: 32 :: oH n 74 (s.drop w)) := by simp
   rw [e5]
  ·rw [if_neg h]
   exact hend s w y (by omega) h4
theorem lS1 : ∀ (n w : Nat) (s : List UInt8), s.length ≤ n → 1 ≤ w → (oH n w s).length ≤ 4 * s.length + 2 := by
 intro n
 induction n with
 | zero =>
  intro w s h _
  simp [oH]
  omega
 | succ n ih =>
  intro w s h hw
  unfold oH
  split
  ·rename_i hlt
   have e4 : (s.drop w).length = s.length - w := by simp
   have := ih 74 (s.drop w) (by omega) (by omega)
   rw [e4] at this
   simp only [pG2, vG2, cH2]
   omega
  ·simp
   omega
theorem qY1 (L : List (List UInt8)) (hl : L.length < 10000) : ∀ (k i : Nat) (y : List UInt8), L.length - i = k → i ≤ L.length → y.length ≤ 4096 → totF (L.drop i) < 10000 →
  kB.l2 (L.map mkS) (L.length : Int) (i : Int) (I y) = if 4096 < (y ++ jE (L.drop i)).length then some ([], 3, ()) else some (I (y ++ jE (L.drop i)), 0, ()) := by
 intro k
 induction k with
 | zero =>
  intro i y hk hi hy ht
  have e : i = L.length := by omega
  subst e
  rw [kB.l2_eq, gI2]
  have : y ++ jE [] = y := by simp [jE]
  rw [this, if_neg (by omega)]
  simp (disch := omega) only [ss]
 | succ k ih =>
  intro i y hk hi hy ht
  have hlt : i < L.length := by omega
  have hd := jW L i [] hlt
  rw [hd, tL] at ht
  have hw := lS1 (L.getD i []).length 75 (L.getD i []) (zG2 _) (by omega)
  rw [kB.l2_eq]
  simp (disch := omega) only [ss, yG2]
  rw [cP mkS L i [] _ hlt]
  have := gZ1 (L.map mkS) (L.length : Int) i (by omega) (L.getD i []).length (L.getD i []) 75 y (zG2 _) (by omega) (by omega) (by omega)
  rw [show ((75 : Nat) : Int) = 75 from rfl] at this
  rw [this, hd]
  have e : jE (L.getD i [] :: L.drop (i + 1)) = oH (L.getD i []).length 75 (L.getD i []) ++ jE (L.drop (i + 1)) := rfl
  rw [e, ← hH2]
  by_cases h : 4096 < (y ++ oH (L.getD i []).length 75 (L.getD i [])).length
  ·rw [if_pos h, if_pos (by rw [pG2]; omega)]
  ·rw [if_neg h]
   exact ih (i + 1) _ (by omega) (by omega) (by omega) (by omega)
def gA2 (L : List (List UInt8)) : Option (List Int × Int × Unit) :=
 if (L.all mayB) = true then (if 4096 < (jE L).length then some ([], 3, ()) else some (I (jE L), 0, ())) else some ([], 4, ())
theorem nI1 {L : List (List UInt8)} {s : List UInt8} (h : s ∈ L) : s.length ≤ totF L := by
 induction L with
 | nil => cases h
 | cons a l ih =>
  rw [tL]
  cases h with
  | head => omega
  | tail _ h => have := ih h; omega
theorem uB2 (L : List (List UInt8)) (h : ∀ i, i < L.length → mayB (L.getD i []) = true) : L.all mayB = true := by
 rw [pH2]
 intro s hs
 obtain ⟨i, hi, rfl⟩ := oJ2 hs
 have := h i hi
 rw [rG2, bH2 hi] at this
 exact this
theorem sH1 (L : List (List UInt8)) {k : Nat} (hk : k < L.length) (hb : mayB (L.getD k []) = false) : ¬ L.all mayB = true := by
 intro h
 rw [pH2] at h
 have := h _ (show L.getD k [] ∈ L by rw [rG2, bH2 hk]; exact uJ2 hk)
 rw [hb] at this
 cases this
theorem rV1 (L : List (List UInt8)) (hl : L.length ≤ 300) (ht : totF L ≤ 9000) : kB.f (L.map mkS) = gA2 L := by
 have hs : ∀ s ∈ L, s.length < 100000 := fun s h => by have := nI1 h; omega
 unfold gA2
 rcases bU (fun i => !mayB (L.getD i [])) L.length with h | ⟨k, h1, h2, h3⟩
 ·have h' : ∀ i, i < L.length → mayB (L.getD i []) = true := fun i hi => by have := h i hi; simpa using this
  rw [if_pos (uB2 L h')]
  have e1 := qY1 L (by omega) L.length 0 [] rfl (aH2 _) (by simp) (by rw [yH2]; omega)
  rw [yH2, eI2] at e1
  exact (kP1 L (by omega) hs h').trans e1
 ·have h2' : mayB (L.getD k []) = false := by simpa using h2
  have h3' : ∀ i, i < k → mayB (L.getD i []) = true := fun i hi => by have := h3 i hi; simpa using this
  rw [if_neg (sH1 L h1 h2')]
  exact lU1 L (by omega) hs h1 h2' h3'
def mP : List UInt8 → Bool
 | [] => true
 | b :: l => (plB b.toNat || (decide (b = 10) || (decide (b = 13) && decide (l.head? = some 10)))) && mP l
theorem mC1 : ∀ {a l : List UInt8}, a.all (fun c => plB c.toNat) = true → mP l = true → mP (a ++ l) = true
 | [], _, _, h => h
 | b :: a, l, h1, h2 => by
  rw [oI2, oG2] at h1
  rw [eK2, mP, h1.1, mC1 h1.2 h2]
  rfl
theorem dL1 : ∀ (n w : Nat) (s rest : List UInt8), s.all (fun c => plB c.toNat) = true → mP rest = true → mP (oH n w s ++ rest) = true := by
 have hend : ∀ (s rest : List UInt8), s.all (fun c => plB c.toNat) = true → mP rest = true → mP ((s ++ [13, 10]) ++ rest) = true := by
  intro s rest h1 h2
  rw [hH2]
  exact mC1 h1 (by simp [mP, h2])
 intro n
 induction n with
 | zero => intro w s rest h1 h2; exact hend s rest h1 h2
 | succ n ih =>
  intro w s rest h1 h2
  unfold oH
  split
  ·have ht : (s.take w).all (fun c => plB c.toNat) = true := by
    rw [pH2] at h1 ⊢
    exact fun x hx => h1 x (List.mem_of_mem_take hx)
   have hd : (s.drop w).all (fun c => plB c.toNat) = true := by
    rw [pH2] at h1 ⊢
    exact fun x hx => h1 x (List.mem_of_mem_drop hx)
   have := ih 74 (s.drop w) rest hd h2
   rw [hH2]
   refine mC1 ht ?_
   have h32 : plB 32 = true := rfl
   simp [mP, this, h32]
  ·exact hend s rest h1 h2
theorem wQ1 : ∀ (l : List UInt8), mP l = true → l.head? ≠ some 32 → ∀ i, i < l.length → bad l i = false := by
 have key : ∀ (l : List UInt8), mP l = true → ∀ i, i < l.length → (!plB (chr l i) && !bR l i) = false := by
  intro l
  induction l with
  | nil => intro _ i hi; cases hi
  | cons b l ih =>
   intro h i hi
   rw [mP, oG2] at h
   cases i with
   | succ i =>
    have := ih h.2 i (by simpa using hi)
    have e1 : chr (b :: l) (i + 1) = chr l i := rfl
    have e2 : bR (b :: l) (i + 1) = bR l i := by
     unfold bR
     have e3 : chr (b :: l) (i + 1 + 1) = chr l (i + 1) := rfl
     rw [e1, e3]
     simp
    rw [e1, e2]
    exact this
   | zero =>
    have h1 := h.1
    have e1 : chr (b :: l) 0 = b.toNat := rfl
    unfold bR
    rw [e1]
    cases hp : plB b.toNat with
    | true => rfl
    | false =>
     rw [hp] at h1
     simp only [Bool.false_or, mI2, decide_eq_true_eq, oG2] at h1
     rcases h1 with rfl | ⟨rfl, h1⟩
     ·rfl
     ·cases l with
      | nil => cases h1
      | cons x y =>
       simp at h1
       subst h1
       simp [chr]
 intro l h1 h2 i hi
 unfold bad
 rw [key l h1 i hi, Bool.false_or]
 by_cases h0 : i = 0
 ·subst h0
  have hne : l ≠ [] := fun e => by rw [e] at hi; cases hi
  have := rJ1 l hne
  rw [dn h2] at this
  have h3 : ¬ ((chr l 0 : Int) = 32) := of_decide_eq_false this.symm
  rw [dn (by omega : ¬ chr l 0 = 32)]
  simp
 ·rw [dn h0]
  rfl
theorem pH1 {s : List UInt8} (h : mayB s = true) : s.all (fun c => plB c.toNat) = true ∧ s ≠ [] ∧ s.head? ≠ some 32 := by
 unfold mayB at h
 simp only [oG2] at h
 obtain ⟨h1, h2, h3⟩ := h
 exact ⟨h1, by simpa using h2, by simpa using h3⟩
theorem tV : ∀ (L : List (List UInt8)), L.all mayB = true → mP (jE L) = true
 | [], _ => rfl
 | s :: L, h => by
  rw [oI2, oG2] at h
  exact dL1 s.length 75 s (jE L) (pH1 h.1).1 (tV L h.2)
theorem bL1 (n w : Nat) (s rest : List UInt8) (hw : 1 ≤ w) (hs : s ≠ []) : (oH n w s ++ rest).head? = s.head? := by
 cases s with
 | nil => exact absurd rfl hs
 | cons x y =>
  cases n with
  | zero => rfl
  | succ n =>
   unfold oH
   split
   ·cases w with
    | zero => omega
    | succ w => rfl
   ·rfl
theorem tF1 (L : List (List UInt8)) (h : L.all mayB = true) : (jE L).head? ≠ some 32 := by
 cases L with
 | nil => intro e; cases e
 | cons s L =>
  rw [oI2, oG2] at h
  obtain ⟨_, h2, h3⟩ := pH1 h.1
  have : jE (s :: L) = oH s.length 75 s ++ jE L := rfl
  rw [this, bL1 _ _ _ _ (by omega) h2]
  exact h3
theorem hB2 {s : List UInt8} (h : s.all (fun c => plB c.toNat) = true) : (10 : UInt8) ∉ s := by
 intro hm
 rw [pH2] at h
 have := h 10 hm
 cases this
theorem zO1 (s : List UInt8) : lH (s ++ [13]) = s := by simp [lH]
theorem jQ (acc : List (List UInt8)) (s : List UInt8) (r : List (List UInt8)) : sK acc (s :: r) = sK (glue acc (lH s)) r := rfl
theorem dW (s rest : List UInt8) (h : s.all (fun c => plB c.toNat) = true) : wE ((s ++ 13 :: 10 :: rest)) = (s ++ [13]) :: wE rest := by
 have : s ++ 13 :: 10 :: rest = (s ++ [13]) ++ 10 :: rest := by simp
 rw [this, yV]
 intro hm
 rw [xG2] at hm
 rcases hm with hm | hm
 ·exact hB2 h hm
 ·simp at hm
theorem mM1 : ∀ (n : Nat) (s rest p : List UInt8) (acc : List (List UInt8)), s.length ≤ n → s.all (fun c => plB c.toNat) = true →
  sK (acc ++ [p]) (wE (32 :: (oH n 74 s ++ rest))) = sK (acc ++ [p ++ s]) (wE rest) := by
 have h32 : plB (32 : UInt8).toNat = true := rfl
 have one : ∀ (s rest p : List UInt8) (acc : List (List UInt8)), s.all (fun c => plB c.toNat) = true → sK (acc ++ [p]) (wE (32 :: (s ++ 13 :: 10 :: rest))) = sK (acc ++ [p ++ s]) (wE rest) := by
  intro s rest p acc h
  have := dW (32 :: s) rest (by rw [oI2, h32, h]; rfl)
  rw [eK2] at this
  rw [this, jQ, zO1]
  congr 1
  simp [glue]
 intro n
 induction n with
 | zero =>
  intro s rest p acc _ h
  have := one s rest p acc h
  simpa [oH] using this
 | succ n ih =>
  intro s rest p acc hn h
  have ht : (s.take 74).all (fun c => plB c.toNat) = true := by
   rw [pH2] at h ⊢
   exact fun x hx => h x (List.mem_of_mem_take hx)
  have hd : (s.drop 74).all (fun c => plB c.toNat) = true := by
   rw [pH2] at h ⊢
   exact fun x hx => h x (List.mem_of_mem_drop hx)
  unfold oH
  split
  ·rename_i hlt
   have h1 := one (s.take 74) (32 :: (oH n 74 (s.drop 74) ++ rest)) p acc ht
   have e : s.take 74 ++ 13 :: 10 :: 32 :: oH n 74 (s.drop 74) ++ rest = s.take 74 ++ 13 :: 10 :: 32 :: (oH n 74 (s.drop 74) ++ rest) := by simp
   rw [e, h1, ih (s.drop 74) rest (p ++ s.take 74) acc (by rw [lH2]; omega) hd, hH2, cI2]
  ·have := one s rest p acc h
   simpa using this
theorem kM1 (s rest : List UInt8) (acc : List (List UInt8)) (h : mayB s = true) : sK acc (wE (oH s.length 75 s ++ rest)) = sK (acc ++ [s]) (wE rest) := by
 obtain ⟨h1, h2, h3⟩ := pH1 h
 have one : ∀ (t rest : List UInt8), t.all (fun c => plB c.toNat) = true → t.head? ≠ some 32 → sK acc (wE (t ++ 13 :: 10 :: rest)) = sK (acc ++ [t]) (wE rest) := by
  intro t rest ht hh
  rw [dW t rest ht, jQ, zO1]
  congr 1
  unfold glue
  rw [if_neg hh]
 obtain ⟨n, hn⟩ : ∃ n, s.length = n + 1 := by cases s with
  | nil => exact absurd rfl h2
  | cons x y => exact ⟨y.length, rfl⟩
 rw [hn]
 unfold oH
 split
 ·rename_i hlt
  have ht : (s.take 75).all (fun c => plB c.toNat) = true := by
   rw [pH2] at h1 ⊢
   exact fun x hx => h1 x (List.mem_of_mem_take hx)
  have hd : (s.drop 75).all (fun c => plB c.toNat) = true := by
   rw [pH2] at h1 ⊢
   exact fun x hx => h1 x (List.mem_of_mem_drop hx)
  have hh : (s.take 75).head? ≠ some 32 := by
   cases s with
   | nil => exact absurd rfl h2
   | cons x y => simpa using h3
  have e : s.take 75 ++ 13 :: 10 :: 32 :: oH n 74 (s.drop 75) ++ rest = s.take 75 ++ 13 :: 10 :: (32 :: (oH n 74 (s.drop 75) ++ rest)) := by simp
  rw [e, one _ _ ht hh, mM1 n (s.drop 75) rest (s.take 75) acc (by rw [lH2]; omega) hd, cI2]
 ·have := one s rest h1 h3
  simpa using this
theorem sR : ∀ (L acc : List (List UInt8)), L.all mayB = true → sK acc (wE (jE L)) = acc ++ L
 | [], acc, _ => by
  have : wE (jE []) = [] := rfl
  rw [this]
  simp [sK]
 | s :: L, acc, h => by
  rw [oI2, oG2] at h
  have : jE (s :: L) = oH s.length 75 s ++ jE L := rfl
  rw [this, kM1 s (jE L) acc h.1, sR L (acc ++ [s]) h.2]
  simp
def run : Nat → List UInt8 → Bool
 | _, [] => true
 | c, b :: l => if b = 10 then run 0 l else decide (c + 1 ≤ 76) && run (c + 1) l
abbrev mL (l : List Int) : Prop := l.Pairwise (· < ·)
theorem lR : ∀ {a b : List Int}, mL a → mL b → (∀ x, x ∈ a ↔ x ∈ b) → a = b
 | [], [], _, _, _ => rfl
 | [], y :: b, _, _, h => by have := (h y).2 uG2; cases this
 | x :: a, [], _, _, h => by have := (h x).1 uG2; cases this
 | x :: a, y :: b, ha, hb, h => by
  have ha := vH2.1 ha
  have hb := vH2.1 hb
  have e : x = y := by
   have h1 := (h x).1 uG2
   have h2 := (h y).2 uG2
   rcases sG2.1 h1 with h1 | h1
   ·exact h1
   ·rcases sG2.1 h2 with h2 | h2
    ·exact h2.symm
    ·have := hb.1 x h1; have := ha.1 y h2; omega
  subst e
  rw [lR ha.2 hb.2 fun z => ?_]
  have h3 := h z
  simp only [sG2] at h3
  constructor
  ·intro hz
   rcases h3.1 (.inr hz) with h4 | h4
   ·have := ha.1 z hz; omega
   ·exact h4
  ·intro hz
   rcases h3.2 (.inr hz) with h4 | h4
   ·have := hb.1 z hz; omega
   ·exact h4
theorem tN1 (l : List Int) (i : Nat) (hi : i < l.length) (hl : l.length ≤ 1000000) (y : List Int) (hy : y.length ≤ 1000000) : ∀ (k q : Nat), y.length - q = k → q ≤ y.length → (∀ j, j < q → y.getD j 0 < l.getD i 0) →
  ∃ q' : Nat, q' ≤ y.length ∧ jA.l2 l i q y = jA.l4 l i q' y ∧ (∀ j, j < q' → y.getD j 0 < l.getD i 0) ∧ (q' < y.length → l.getD i 0 ≤ y.getD q' 0) := by
 intro k
 induction k with
 | zero =>
  intro q hk hq h
  refine ⟨q, hq, ?_, h, fun h => by omega⟩
  rw [jA.l2_eq]
  simp (disch := omega) only [ss, jA.l3_eq]
 | succ k ih =>
  intro q hk hq h
  rw [jA.l2_eq]
  by_cases hc : y.getD q 0 < l.getD i 0
  ·simp (disch := omega) only [ss, jA.l3_eq]
   refine ih (q + 1) (by omega) (by omega) fun j hj => ?_
   by_cases e : j = q
   ·subst e; exact hc
   ·exact h j (by omega)
  ·simp (disch := omega) only [ss, jA.l3_eq]
   exact ⟨q, hq, rfl, h, fun _ => by omega⟩
theorem oN1 (l : List Int) (hl : l.length ≤ 1000000) : ∀ (k i : Nat) (y : List Int), l.length - i = k → i ≤ l.length → y.length ≤ i → mL y →
  ∃ r, jA.l1 l i y = some (r, ()) ∧ mL r ∧ ∀ x, x ∈ r ↔ x ∈ y ∨ x ∈ l.drop i := by
 have hlim : vC = 17179869184 := rfl
 intro k
 induction k with
 | zero =>
  intro i y hk hi hy hr
  have e : i = l.length := by omega
  subst e
  rw [jA.l1_eq]
  simp (disch := omega) only [ss]
  exact ⟨y, rfl, hr, fun x => by simp⟩
 | succ k ih =>
  intro i y hk hi hy hr
  have hlt : i < l.length := by omega
  obtain ⟨q, h1, h2, h3, h4⟩ := tN1 l i hlt hl y (by omega) _ 0 rfl (aH2 _) fun j hj => by omega
  rw [jA.l1_eq]
  rw [eH2] at h2
  simp (disch := omega) only [ss, h2]
  rw [iC 0 hlt, jA.l4_eq]
  have ins : (q < y.length → l.getD i 0 < y.getD q 0) → ∃ r, jA.l6 l i q y = some (r, ()) ∧ mL r ∧ ∀ x, x ∈ r ↔ x ∈ y ∨ x ∈ l.getD i 0 :: l.drop (i + 1) := by
   intro h5
   have hp := oV1 y (l.getD i 0) q
   have hs : mL (y.take q ++ ([l.getD i 0] ++ y.drop q)) := by
    refine oM1 hr (fun a ha => ?_) fun a ha => ?_
    ·obtain ⟨j, hj, e⟩ := oJ2 ha
     rw [cH2] at hj
     rw [List.getElem_take] at e
     have := h3 j (by omega)
     rw [yG 0 (by omega), e] at this
     exact this
    ·obtain ⟨j, hj, e⟩ := oJ2 ha
     rw [lH2] at hj
     rw [List.getElem_drop] at e
     have a1 := h5 (by omega)
     rw [yG 0 (show q < y.length by omega)] at a1
     by_cases hj0 : j = 0
     ·subst hj0
      simp only [pJ2] at e
      rw [← e]; exact a1
     ·have := List.pairwise_iff_getElem.1 hr q (q + j) (by omega) (by omega) (by omega)
      rw [e] at this
      omega
   obtain ⟨r, b1, b2, b3⟩ := ih (i + 1) _ (by omega) (by omega) (by rw [hp.length_eq]; simp; omega) hs
   refine ⟨r, ?_, b2, fun x => ?_⟩
   ·rw [jA.l6_eq]
    simp (disch := omega) only [ss, wG2, pG2, cH2, lH2, hlim]
    exact b1
   ·rw [b3, hp.mem_iff, sG2, sG2]
    constructor
    ·rintro ((h | h) | h)
     ·exact .inr (.inl h)
     ·exact .inl h
     ·exact .inr (.inr h)
    ·rintro (h | h | h)
     ·exact .inl (.inr h)
     ·exact .inl (.inl h)
     ·exact .inr h
  by_cases hq : q < y.length
  ·by_cases he : y.getD q 0 = l.getD i 0
   ·simp (disch := omega) only [ss, jA.l5_eq]
    obtain ⟨r, b1, b2, b3⟩ := ih (i + 1) y (by omega) (by omega) (by omega) hr
    refine ⟨r, b1, b2, fun x => ?_⟩
    have hm : l.getD i 0 ∈ y := by rw [← he]; exact iD 0 hq
    rw [b3, sG2]
    constructor
    ·rintro (h | h)
     ·exact .inl h
     ·exact .inr (.inr h)
    ·rintro (h | h | h)
     ·exact .inl h
     ·exact .inl (h ▸ hm)
     ·exact .inr h
   ·simp (disch := omega) only [ss, jA.l5_eq]
    exact ins fun h => by have := h4 h; omega
  ·simp (disch := omega) only [ss, jA.l5_eq]
   exact ins fun h => by omega
theorem tW (l : List Int) (hl : l.length ≤ 1000000) : ∃ r, jA.f l = some (r, ()) ∧ mL r ∧ ∀ x, x ∈ r ↔ x ∈ l := by
 obtain ⟨r, h1, h2, h3⟩ := oN1 l hl _ 0 [] rfl (aH2 _) (zG2 _) List.Pairwise.nil
 refine ⟨r, ?_, h2, fun x => by rw [h3]; simp⟩
 rw [jA.f_eq]
 exact h1
def dd : Int → List Int → List Int
 | _, [] => []
 | p, a :: l => if a = p then dd a l else a :: dd a l
theorem xN1 : ∀ (l : List Int) (p x : Int), x ∈ dd p l ∨ x = p ↔ x ∈ l ∨ x = p
 | [], p, x => by simp [dd]
 | a :: l, p, x => by
  unfold dd
  have ih := xN1 l a x
  by_cases h : a = p
  ·subst h
   rw [if_pos rfl, ih, sG2]
   constructor
   ·rintro (h | h)
    ·exact .inl (.inr h)
    ·exact .inr h
   ·rintro ((h | h) | h)
    ·exact .inr h
    ·exact .inl h
    ·exact .inr h
  ·rw [if_neg h, sG2, sG2]
   constructor
   ·rintro ((h1 | h1) | h1)
    ·exact .inl (.inl h1)
    ·rcases ih.1 (.inl h1) with h2 | h2
     ·exact .inl (.inr h2)
     ·exact .inl (.inl h2)
    ·exact .inr h1
   ·rintro ((h1 | h1) | h1)
    ·exact .inl (.inl h1)
    ·rcases ih.2 (.inl h1) with h2 | h2
     ·exact .inl (.inr h2)
     ·exact .inl (.inl h2)
    ·exact .inr h1
theorem pZ : ∀ (l : List Int) (p : Int), (p :: l).Pairwise (· ≤ ·) → mL (p :: dd p l)
 | [], p, _ => List.pairwise_singleton _ _
 | a :: l, p, h => by
  unfold dd
  rw [vH2] at h
  have ih := pZ l a h.2
  by_cases he : a = p
  ·subst he; rw [if_pos rfl]; exact ih
  ·rw [if_neg he]
   have hlt : p < a := by have := h.1 a uG2; omega
   refine vH2.2 ⟨fun b hb => ?_, ih⟩
   rcases sG2.1 hb with rfl | hb
   ·exact hlt
   ·have := (vH2.1 ih).1 b hb; omega
def dds : List Int → List Int
 | [] => []
 | a :: l => a :: dd a l
theorem hY1 (N : Nat) (hN : N ≤ 1000000) (b : Nat) : ∀ (k i q : Nat) (y : List Int), y.length = N → N - (b + q) = k → 1 ≤ q → i < b + q → b + q ≤ N →
  fA.l3 i b q y = some (y.take i ++ dd (y.getD (b + q - 1) 0) (y.drop (b + q)), ()) := by
 intro k
 induction k with
 | zero =>
  intro i q y hy hk hq hi hb
  have e : b + q = y.length := by omega
  have e2 : (y.take i ++ List.replicate (y.length - i) 0).take i = y.take i := by
   rw [bK2 (by rw [cH2]; omega), List.take_take, Nat.min_self]
  rw [fA.l3_eq, e, gI2]
  simp (disch := omega) only [ss, pG2, cH2, List.length_replicate, e2, fA.l4_eq, dd, kH2]
 | succ k ih =>
  intro i q y hy hk hq hi hb
  have hlt : b + q < y.length := by omega
  have w1 : w6 ((q : Int) - 1) = ((q - 1 : Nat) : Int) := gQ (by omega) (by omega)
  have w2 : ((b : Int) + ((q - 1 : Nat) : Int)).toNat = b + q - 1 := by omega
  have e1 : ((q : Int) < ((y.length - b : Nat) : Int)) := by omega
  rw [fA.l3_eq, iC 0 hlt]
  simp (disch := omega) only [ss, w1, w2, e1, lH2, dd]
  by_cases hc : y.getD (b + q) 0 = y.getD (b + q - 1) 0
  ·simp (disch := omega) only [ss, if_pos hc]
   have := ih i (q + 1) y hy (by omega) (by omega) (by omega) (by omega)
   rw [show b + (q + 1) - 1 = b + q by omega, show b + (q + 1) = b + q + 1 by omega] at this
   exact this
  ·simp (disch := omega) only [ss, if_neg hc]
   have := ih (i + 1) (q + 1) (y.set i (y.getD (b + q) 0)) (by simp [hy]) (by omega) (by omega) (by omega) (by omega)
   refine this.trans ?_
   have g1 : (y.set i (y.getD (b + q) 0)).getD (b + (q + 1) - 1) 0 = y.getD (b + q) 0 := by
    rw [show b + (q + 1) - 1 = b + q by omega, rG2, rG2, List.getElem?_set]
    by_cases h : i = b + q
    ·omega
    ·rw [if_neg h]
   have g2 : (y.set i (y.getD (b + q) 0)).getD i 0 = y.getD (b + q) 0 := by rw [yG 0 (show i < (y.set i (y.getD (b + q) 0)).length by simp; omega)]; simp
   rw [g1, tE 0 (show i < (y.set i (y.getD (b + q) 0)).length by simp; omega), List.drop_set_of_lt (by omega), List.take_set_of_le (zG2 i), g2, show b + (q + 1) = b + q + 1 by omega]
   simp
theorem lA2 (y : List Int) (hN : y.length ≤ 1000000) : ∀ (k q : Nat), y.length - q = k → 1 ≤ q → q ≤ y.length →
  fA.l2 q y = some (y.take q ++ dd (y.getD (q - 1) 0) (y.drop q), ()) := by
 intro k
 induction k with
 | zero =>
  intro q hk hq hq2
  have e : q = y.length := by omega
  subst e
  rw [fA.l2_eq]
  simp (disch := omega) only [ss, fA.l5_eq, gI2, wJ2, dd, kH2]
 | succ k ih =>
  intro q hk hq hq2
  have hlt : q < y.length := by omega
  have w1 : w6 ((q : Int) - 1) = ((q - 1 : Nat) : Int) := gQ (by omega) (by omega)
  rw [fA.l2_eq, iC 0 hlt]
  simp (disch := omega) only [ss, w1, dd]
  by_cases hc : y.getD q 0 = y.getD (q - 1) 0
  ·simp (disch := omega) only [ss, if_pos hc]
   have := hY1 y.length hN q _ q 1 y rfl rfl (zG2 _) (by omega) (by omega)
   rw [show q + 1 - 1 = q by omega] at this
   exact this
  ·simp (disch := omega) only [ss, if_neg hc]
   have := ih (q + 1) (by omega) (by omega) (by omega)
   rw [show q + 1 - 1 = q by omega, tE 0 hlt] at this
   refine Eq.trans this ?_
   simp
theorem uS (y : List Int) (hN : y.length ≤ 1000000) : fA.f y = some (dds y, ()) := by
 rw [fA.f_eq]
 cases y with
 | nil => simp (disch := omega) only [ss, aI2, eH2, fA.l1_eq]; rfl
 | cons a l =>
  by_cases h : l = []
  ·subst h
   simp (disch := omega) only [ss, vG2, aI2, fA.l1_eq]
   rfl
  ·have h1 : 0 < l.length := aJ2.2 h
   have := lA2 (a :: l) hN _ 1 rfl (zG2 _) (by simp)
   simp (disch := omega) only [ss, vG2]
   refine Eq.trans this ?_
   rfl
abbrev Dy := Int × Int × Unit
theorem vU1 (a b : Dy) : (decide (a.1 = b.1) && decide (a.2.1 = b.2.1)) = decide (a = b) := by
 obtain ⟨a1, a2, ⟨⟩⟩ := a
 obtain ⟨b1, b2, ⟨⟩⟩ := b
 rw [Bool.eq_iff_iff]
 simp
def dyLt (a b : Dy) : Prop := a.1 < b.1 ∨ a.1 = b.1 ∧ a.2.1 < b.2.1
def ddT : Dy → List Dy → List Dy
 | _, [] => []
 | p, a :: l => if a = p then ddT a l else a :: ddT a l
def ddsT : List Dy → List Dy
 | [] => []
 | a :: l => a :: ddT a l
theorem aW1 (N : Nat) (hN : N ≤ 1000000) (b : Nat) : ∀ (k i q : Nat) (y : List Dy), y.length = N → N - (b + q) = k → 1 ≤ q → i < b + q → b + q ≤ N →
  bA.l3 i b q y = some (y.take i ++ ddT (y.getD (b + q - 1) ((0, 0, ()) : Int × Int × Unit)) (y.drop (b + q)), ()) := by
 intro k
 induction k with
 | zero =>
  intro i q y hy hk hq hi hb
  have e : b + q = y.length := by omega
  have e2 : (y.take i ++ List.replicate (y.length - i) ((0, 0, ()) : Int × Int × Unit)).take i = y.take i := by
   rw [bK2 (by rw [cH2]; omega), List.take_take, Nat.min_self]
  rw [bA.l3_eq, e, gI2]
  simp (disch := omega) only [ss, pG2, cH2, List.length_replicate, e2, bA.l4_eq, ddT, kH2]
 | succ k ih =>
  intro i q y hy hk hq hi hb
  have hlt : b + q < y.length := by omega
  have w1 : w6 ((q : Int) - 1) = ((q - 1 : Nat) : Int) := gQ (by omega) (by omega)
  have w2 : ((b : Int) + ((q - 1 : Nat) : Int)).toNat = b + q - 1 := by omega
  have e1 : ((q : Int) < ((y.length - b : Nat) : Int)) := by omega
  rw [bA.l3_eq, iC ((0, 0, ()) : Int × Int × Unit) hlt]
  simp (disch := omega) only [ss, w1, w2, e1, lH2, ddT]
  by_cases hc : y.getD (b + q) ((0, 0, ()) : Int × Int × Unit) = y.getD (b + q - 1) ((0, 0, ()) : Int × Int × Unit)
  ·have hc1 := decide_eq_true hc
   simp (disch := omega) only [ss, vU1, hc1, if_pos hc]
   have := ih i (q + 1) y hy (by omega) (by omega) (by omega) (by omega)
   rw [show b + (q + 1) - 1 = b + q by omega, show b + (q + 1) = b + q + 1 by omega] at this
   exact this
  ·have hc1 := decide_eq_false hc
   simp (disch := omega) only [ss, vU1, hc1, if_neg hc]
   have := ih (i + 1) (q + 1) (y.set i (y.getD (b + q) ((0, 0, ()) : Int × Int × Unit))) (by simp [hy]) (by omega) (by omega) (by omega) (by omega)
   refine this.trans ?_
   have g1 : (y.set i (y.getD (b + q) ((0, 0, ()) : Int × Int × Unit))).getD (b + (q + 1) - 1) ((0, 0, ()) : Int × Int × Unit) = y.getD (b + q) ((0, 0, ()) : Int × Int × Unit) := by
    rw [show b + (q + 1) - 1 = b + q by omega, rG2, rG2, List.getElem?_set]
    by_cases h : i = b + q
    ·omega
    ·rw [if_neg h]
   have g2 : (y.set i (y.getD (b + q) ((0, 0, ()) : Int × Int × Unit))).getD i ((0, 0, ()) : Int × Int × Unit) = y.getD (b + q) ((0, 0, ()) : Int × Int × Unit) := by rw [yG ((0, 0, ()) : Int × Int × Unit) (show i < (y.set i (y.getD (b + q) ((0, 0, ()) : Int × Int × Unit))).length by simp; omega)]; simp
   rw [g1, tE ((0, 0, ()) : Int × Int × Unit) (show i < (y.set i (y.getD (b + q) ((0, 0, ()) : Int × Int × Unit))).length by simp; omega), List.drop_set_of_lt (by omega), List.take_set_of_le (zG2 i), g2, show b + (q + 1) = b + q + 1 by omega]
   simp
theorem zW1 (y : List Dy) (hN : y.length ≤ 1000000) : ∀ (k q : Nat), y.length - q = k → 1 ≤ q → q ≤ y.length →
  bA.l2 q y = some (y.take q ++ ddT (y.getD (q - 1) ((0, 0, ()) : Int × Int × Unit)) (y.drop q), ()) := by
 intro k
 induction k with
 | zero =>
  intro q hk hq hq2
  have e : q = y.length := by omega
  subst e
  rw [bA.l2_eq]
  simp (disch := omega) only [ss, bA.l5_eq, gI2, wJ2, ddT, kH2]
 | succ k ih =>
  intro q hk hq hq2
  have hlt : q < y.length := by omega
  have w1 : w6 ((q : Int) - 1) = ((q - 1 : Nat) : Int) := gQ (by omega) (by omega)
  rw [bA.l2_eq, iC ((0, 0, ()) : Int × Int × Unit) hlt]
  simp (disch := omega) only [ss, w1, ddT]
  by_cases hc : y.getD q ((0, 0, ()) : Int × Int × Unit) = y.getD (q - 1) ((0, 0, ()) : Int × Int × Unit)
  ·have hc1 := decide_eq_true hc
   simp (disch := omega) only [ss, vU1, hc1, if_pos hc]
   have := aW1 y.length hN q _ q 1 y rfl rfl (zG2 _) (by omega) (by omega)
   rw [show q + 1 - 1 = q by omega] at this
   exact this
  ·have hc1 := decide_eq_false hc
   simp (disch := omega) only [ss, vU1, hc1, if_neg hc]
   have := ih (q + 1) (by omega) (by omega) (by omega)
   rw [show q + 1 - 1 = q by omega, tE ((0, 0, ()) : Int × Int × Unit) hlt] at this
   refine Eq.trans this ?_
   simp
theorem oB1 (y : List Dy) (hN : y.length ≤ 1000000) : bA.f y = some (ddsT y, ()) := by
 rw [bA.f_eq]
 cases y with
 | nil => simp (disch := omega) only [ss, aI2, eH2, bA.l1_eq]; rfl
 | cons a l =>
  by_cases h : l = []
  ·subst h
   simp (disch := omega) only [ss, vG2, aI2, bA.l1_eq]
   rfl
  ·have h1 : 0 < l.length := aJ2.2 h
   have := zW1 (a :: l) hN _ 1 rfl (zG2 _) (by simp)
   simp (disch := omega) only [ss, vG2]
   refine Eq.trans this ?_
   rfl
theorem nO1 (c : UInt8) (s : List UInt8) (hs : s.length ≤ 1000000) : ∀ (k i gE : Nat) (y : List ByteArray), s.length + 1 - i = k → gE ≤ i → i ≤ s.length → y.length ≤ i → c ∉ (s.drop gE).take (i - gE) →
  rB.l1 (mkS s) (c.toNat : Int) gE i y = some (y ++ (segs c (s.drop gE)).map mkS, ()) := by
 have hlim : vC = 17179869184 := rfl
 intro k
 induction k with
 | zero => intro i gE y hk hf hi; omega
 | succ k ih =>
  intro i gE y hk hf hi hy hn
  have hex : (mkS s).extract gE i = mkS ((s.drop gE).take (i - gE)) := nI (by rw [gV1, B_mk, B_mk])
  rw [rB.l1_eq]
  by_cases hlt : i < s.length
  ·have hbt : bt (mkS s) (i : Int) = ((s.getD i 0).toNat : Int) := uM (mkS s) i
   have hsp : s.drop gE = (s.drop gE).take (i - gE) ++ s.getD i 0 :: s.drop (i + 1) := by
    conv => lhs; rw [← cI2 (i - gE) (s.drop gE)]
    rw [xJ2, show gE + (i - gE) = i by omega, iC 0 hlt]
   by_cases hc : ((s.getD i 0).toNat : Int) = (c.toNat : Int)
   ·have hc' := (vX1 _ _).1 hc
    simp (disch := omega) only [ss, szS, hbt, rB.l2_eq, hex, wG2, hlim]
    refine (ih (i + 1) (i + 1) (y ++ [mkS ((s.drop gE).take (i - gE))]) (by omega) (by omega) (by omega) (by simp; omega) (by simp)).trans ?_
    have hseg : segs c (s.drop gE) = (s.drop gE).take (i - gE) :: segs c (s.drop (i + 1)) := by
     conv => lhs; rw [hsp, hc']
     exact jI hn
    rw [hseg]
    simp
   ·have hc' : ¬ s.getD i 0 = c := fun q => hc (by rw [q])
    simp (disch := omega) only [ss, szS, hbt, rB.l2_eq]
    refine ih (i + 1) gE y (by omega) (by omega) (by omega) (by omega) ?_
    rw [show i + 1 - gE = (i - gE) + 1 by omega, tE 0 (show i - gE < (s.drop gE).length by rw [lH2]; omega)]
    have : (s.drop gE).getD (i - gE) 0 = s.getD i 0 := by
     rw [yG 0 (show i - gE < (s.drop gE).length by rw [lH2]; omega), yG 0 hlt, List.getElem_drop]
     congr 1
     omega
    rw [this]
    intro q
    rcases xG2.1 q with q | q
    ·exact hn q
    ·rw [qH2] at q; exact hc' q.symm
  ·have e : i = s.length := by omega
   subst e
   have ht : (s.drop gE).take (s.length - gE) = s.drop gE := fJ2 (by rw [lH2]; omega)
   rw [ht] at hn hex
   simp (disch := omega) only [ss, szS, rB.l2_eq, hex, wG2, hlim]
   rw [rB.l1_eq]
   simp (disch := omega) only [ss, szS]
   rw [eI hn]
   rfl
theorem aM (c : UInt8) (s : List UInt8) (hs : s.length ≤ 1000000) : rB.f (mkS s) (c.toNat : Int) = some ((segs c s).map mkS, ()) := by
 rw [rB.f_eq]
 have := nO1 c s hs _ 0 0 [] rfl (zG2 _) (aH2 _) (zG2 _) (by simp)
 rw [eH2] at this
 simpa using this
theorem jN (c : UInt8) (l : List UInt8) : (segs c l).length ≤ l.length + 1 ∧ ∀ s ∈ segs c l, s.length ≤ l.length := by
 suffices h : ∀ (k : Nat) (l : List UInt8), l.length = k → (segs c l).length ≤ l.length + 1 ∧ ∀ s ∈ segs c l, s.length ≤ l.length from h _ l rfl
 intro k
 induction k using Nat.strongRecOn with
 | ind k ih =>
  intro l hl
  rcases oK (c := c) (l := l) with h | ⟨a, b, h, h2⟩
  ·rw [eI h]
   refine ⟨by simp, fun s hs => ?_⟩
   rw [qH2] at hs
   rw [hs]
   exact zG2 _
  ·subst h
   rw [jI h2]
   simp only [pG2, vG2] at hl ⊢
   obtain ⟨h3, h4⟩ := ih b.length (by omega) b rfl
   refine ⟨by omega, fun s hs => ?_⟩
   rcases sG2.1 hs with rfl | hs
   ·omega
   ·have := h4 s hs; omega
theorem oW (c : UInt8) (l : List UInt8) : segs c l ≠ [] := by
 rcases oK (c := c) (l := l) with h | ⟨a, b, h, h2⟩
 ·rw [eI h]; simp
 ·subst h; rw [jI h2]; simp
def posF : Int → List (List UInt8) → List UInt8 → Int
 | _, [], _ => -1
 | i, w :: l, v => if w = v then i else posF (i + 1) l v
theorem bO : ∀ (l : List (List UInt8)) (v : List UInt8) (i : Int), 0 ≤ i → (0 ≤ posF i l v ↔ v ∈ l) ∧ posF i l v ≤ i + l.length ∧ -1 ≤ posF i l v ∧ (posF i l v < 0 → posF i l v = -1)
 | [], v, i, h => by simp [posF]; omega
 | w :: l, v, i, h => by
  unfold posF
  by_cases hw : w = v
  ·rw [if_pos hw]
   refine ⟨⟨fun _ => by rw [hw]; exact uG2, fun _ => h⟩, by simp; omega, by omega, by omega⟩
  ·rw [if_neg hw]
   obtain ⟨h1, h2, h3, h4⟩ := bO l v (i + 1) (by omega)
   refine ⟨h1.trans ⟨tG2 _, fun q => (sG2.1 q).resolve_left fun q => hw q.symm⟩, by simp; omega, h3, h4⟩
theorem hE1 : ∀ (l : List (List UInt8)) (v : List UInt8) (i : Int), posF (i + 1) l v = if v ∈ l then posF i l v + 1 else -1
 | [], v, i => by simp [posF]
 | w :: l, v, i => by
  unfold posF
  by_cases hw : w = v
  ·rw [if_pos hw, if_pos hw, if_pos (by rw [hw]; exact uG2)]
  ·rw [if_neg hw, if_neg hw, hE1 l v (i + 1)]
   by_cases hm : v ∈ l
   ·rw [if_pos hm, if_pos (tG2 _ hm)]
   ·rw [if_neg hm, if_neg fun q => hm ((sG2.1 q).resolve_left fun q => hw q.symm)]
theorem gm (l : List (List UInt8)) (i : Nat) (hi : i < l.length) : (l.map mkS).getD i ByteArray.empty = mkS (l.getD i []) := by
 rw [yG ByteArray.empty (by simpa using hi), yG [] hi, List.getElem_map]
theorem gJ (l : List (List UInt8)) (v : List UInt8) (hl : l.length ≤ 1000000) : kA.f (l.map mkS) (mkS v) = some (posF 0 l v, ()) := by
 have key : ∀ (k i : Nat), l.length - i = k → i ≤ l.length → kA.l1 (l.map mkS) (mkS v) l.length i = some (posF i (l.drop i) v, ()) := by
  intro k
  induction k with
  | zero =>
   intro i hk hi
   have e : i = l.length := by omega
   subst e
   rw [kA.l1_eq, gI2]
   simp (disch := omega) only [ss]
   rfl
  | succ k ih =>
   intro i hk hi
   have hlt : i < l.length := by omega
   have hg := gm l i hlt
   have hml : (l.map mkS).length = l.length := yG2 ..
   rw [kA.l1_eq, iC [] hlt]
   simp only [kE]
   simp (disch := omega) only [ss, hml, hg, posF]
   by_cases h : l.getD i [] = v
   ·rw [if_pos h, dp (by rw [h]), cond_true]
   ·rw [if_neg h, dn fun q => h (xM q.symm), cond_false]
    exact ih (i + 1) (by omega) (by omega)
 rw [kA.f_eq]
 have := key _ 0 rfl (aH2 _)
 rw [yH2, eH2] at this
 rw [yG2]
 exact this
theorem yI (l : List (List UInt8)) (v : List UInt8) (hl : l.length ≤ 1000000) : oB.f (l.map mkS) (mkS v) = some (decide (v ∈ l), ()) := by
 rw [oB.f_eq, gJ l v hl]
 simp only [qG2]
 rw [show decide (posF 0 l v ≥ 0) = decide (v ∈ l) from decide_eq_decide.2 (bO l v 0 (by omega)).1]
theorem vP (l : List (List UInt8)) (v : List UInt8) (hl : l.length ≤ 1000000) : vB.f (l.map mkS) (mkS v) = some (if v = [] then -1 else posF 0 l v, ()) := by
 have key : ∀ (k i : Nat), l.length - i = k → i ≤ l.length → vB.l1 (l.map mkS) (mkS v) i = some (if v = [] then -1 else posF i (l.drop i) v, ()) := by
  intro k
  induction k with
  | zero =>
   intro i hk hi
   have e : i = l.length := by omega
   subst e
   have hml : (l.map mkS).length = l.length := yG2 ..
   rw [vB.l1_eq, gI2]
   simp (disch := omega) only [ss, hml]
   by_cases hv : v = []
   ·rw [if_pos hv]
   ·rw [if_neg hv]; rfl
  | succ k ih =>
   intro i hk hi
   have hlt : i < l.length := by omega
   have hg := gm l i hlt
   have hml : (l.map mkS).length = l.length := yG2 ..
   have next := ih (i + 1) (by omega) (by omega)
   rw [vB.l1_eq, iC [] hlt]
   simp only [kE]
   simp (disch := omega) only [ss, hml, hg]
   have hmt : (⟨#[]⟩ : ByteArray) = mkS [] := rfl
   rw [hmt]
   by_cases hv : v = []
   ·rw [if_pos hv] at next ⊢
    have e2 : decide (mkS v = mkS []) = true := dp (by rw [hv])
    rw [e2]
    by_cases h : mkS (l.getD i []) = mkS v
    ·rw [dp h, cond_true, vB.l2_eq]
     simp (disch := omega) only [ss]
     exact next
    ·rw [dn h, cond_false, vB.l2_eq]
     simp (disch := omega) only [ss]
     exact next
   ·rw [if_neg hv] at next ⊢
    have e2 : decide (mkS v = mkS []) = false := dn fun q => hv (xM q)
    rw [e2]
    unfold posF
    by_cases h : l.getD i [] = v
    ·rw [if_pos h, dp (by rw [h]), cond_true, vB.l2_eq]
     simp (disch := omega) only [ss]
    ·rw [if_neg h, dn fun q => h (xM q), cond_false, vB.l2_eq]
     simp (disch := omega) only [ss]
     exact next
 rw [vB.f_eq]
 have := key _ 0 rfl (aH2 _)
 rw [yH2, eH2] at this
 exact this
theorem zI {s : List UInt8} {n m : Int} (h : isN s n) (g : isN s m) : n = m := yT1 (h.1.symm.trans g.1)
theorem pO1 : ∀ p : List (List UInt8), (∃ ns, All2 isN p ns) ∨ ∃ s ∈ p, ∀ n, ¬ isN s n
 | [] => .inl ⟨[], trivial⟩
 | s :: p => by
  by_cases h : ∃ n, isN s n
  ·obtain ⟨n, hn⟩ := h
   rcases pO1 p with ⟨ns, h2⟩ | ⟨t, ht, h2⟩
   ·exact .inl ⟨n :: ns, hn, h2⟩
   ·exact .inr ⟨t, tG2 _ ht, h2⟩
  ·exact .inr ⟨s, uG2, fun n hn => h ⟨n, hn⟩⟩
theorem wK1 {y : List Int} (hy : y.length ≤ 1000000) : ∃ r, jC.f y = some (r, ()) ∧ r.length = y.length ∧ mL (dds r) ∧ ∀ x, x ∈ dds r ↔ x ∈ y := by
 have hs : jC.f y = some (y.mergeSort fun x y => decide (x ≤ y), ()) := by
  rw [jC.f_sem]
  show (bif decide (List.length y ≤ vC) then some (List.mergeSort (α := Int) y (fun x y => decide (x ≤ y)), ()) else none) = _
  rw [dp (by simp only [vC]; omega), cond_true]
 have hp : (y.mergeSort fun x y => decide (x ≤ y)).Perm y := List.mergeSort_perm y _
 have hso : (y.mergeSort fun x y => decide (x ≤ y)).Pairwise (· ≤ ·) := by
  have := List.pairwise_mergeSort (le := fun x y : Int => decide (x ≤ y)) (fun a b c h1 h2 => by simp at *; omega) (fun a b => by simp; omega) y
  exact this.imp fun h => by simpa using h
 generalize y.mergeSort (fun x y => decide (x ≤ y)) = r at hs hp hso
 refine ⟨r, hs, hp.length_eq, ?_, fun x => ?_⟩
 ·cases r with
  | nil => exact List.Pairwise.nil
  | cons a r => exact pZ r a hso
 ·have e : x ∈ dds r ↔ x ∈ r := by
   cases r with
   | nil => exact Iff.rfl
   | cons a r =>
    show x ∈ a :: dd a r ↔ _
    rw [sG2, sG2]
    have := xN1 r a x
    constructor
    ·rintro (h | h)
     ·exact .inl h
     ·rcases this.1 (.inl h) with h | h
      ·exact .inr h
      ·exact .inl h
    ·rintro (h | h)
     ·exact .inl h
     ·rcases this.2 (.inl h) with h | h
      ·exact .inr h
      ·exact .inl h
  rw [e, hp.mem_iff]
noncomputable def dH1 (y : List Int) : Option (List Int × Bool × Unit) := bif decide ((y.length : Int) > 60) then (some ([], false, ())) else ((jC.f y).bind fun t3 => (fA.f t3.1).bind fun t4 => some (t4.1, true, ()))
theorem eA2 (p : List (List UInt8)) (hp : p.length ≤ 100000) (hpl : ∀ s ∈ p, s.length ≤ 100000) : ∀ (k i : Nat) (y : List Int), p.length - i = k → i ≤ p.length → y.length ≤ i →
  (∀ ns, All2 isN (p.drop i) ns → uB.l1 (p.map mkS) p.length i y = dH1 (y ++ ns)) ∧ ((∃ s ∈ p.drop i, ∀ n, ¬ isN s n) → uB.l1 (p.map mkS) p.length i y = some ([], false, ())) := by
 have hlim : vC = 17179869184 := rfl
 have hml : (p.map mkS).length = p.length := yG2 ..
 intro k
 induction k with
 | zero =>
  intro i y hk hi hy
  have e : i = p.length := by omega
  subst e
  rw [uB.l1_eq, gI2]
  simp (disch := omega) only [ss, hml]
  refine ⟨fun ns hns => ?_, fun ⟨s, hs, _⟩ => by cases hs⟩
  cases ns with
  | nil => rw [kH2]; rfl
  | cons _ _ => exact hns.elim
 | succ k ih =>
  intro i y hk hi hy
  have hlt : i < p.length := by omega
  have hg := gm p i hlt
  rw [uB.l1_eq, iC [] hlt]
  rcases wJ (p.getD i []) (by have := hpl _ (iD [] hlt); omega) with ⟨n, hn, hf⟩ | ⟨hn, n, hf⟩
  ·simp (disch := omega) only [ss, hml, hg, hf, wG2, hlim]
   obtain ⟨h1, h2⟩ := ih (i + 1) (y ++ [n]) (by omega) (by omega) (by simp; omega)
   refine ⟨fun ns hns => ?_, fun ⟨s, hs, hs2⟩ => ?_⟩
   ·cases ns with
    | nil => exact hns.elim
    | cons m ns =>
     have e := zI hns.1 hn
     subst e
     refine (h1 ns hns.2).trans ?_
     rw [hH2]
     rfl
   ·refine h2 ?_
    rcases sG2.1 hs with rfl | hs
    ·exact absurd hn (hs2 n)
    ·exact ⟨s, hs, hs2⟩
  ·simp (disch := omega) only [ss, hml, hg, hf]
   refine ⟨fun ns hns => ?_, fun _ => trivial⟩
   cases ns with
   | nil => exact hns.elim
   | cons m ns => exact absurd hns.1 (hn m)
theorem cW1 (p : List (List UInt8)) (hp : p.length ≤ 100000) (hpl : ∀ s ∈ p, s.length ≤ 100000) : ∀ (k i : Nat) (y : List Int), p.length - i = k → i ≤ p.length → y.length ≤ i →
  (∀ ns, All2 isN (p.drop i) ns → iB.l1 (p.map mkS) i y = ((jA.f (y ++ ns)).bind fun t3 => some (t3.1, true, ()))) ∧ ((∃ s ∈ p.drop i, ∀ n, ¬ isN s n) → iB.l1 (p.map mkS) i y = some ([], false, ())) := by
 have hlim : vC = 17179869184 := rfl
 have hml : (p.map mkS).length = p.length := yG2 ..
 intro k
 induction k with
 | zero =>
  intro i y hk hi hy
  have e : i = p.length := by omega
  subst e
  rw [iB.l1_eq, gI2]
  simp (disch := omega) only [ss, hml]
  refine ⟨fun ns hns => ?_, fun ⟨s, hs, _⟩ => by cases hs⟩
  cases ns with
  | nil => rw [kH2]
  | cons _ _ => exact hns.elim
 | succ k ih =>
  intro i y hk hi hy
  have hlt : i < p.length := by omega
  have hg := gm p i hlt
  rw [iB.l1_eq, iC [] hlt]
  rcases mI (p.getD i []) (by have := hpl _ (iD [] hlt); omega) with ⟨n, hn, hf⟩ | ⟨hn, n, hf⟩
  ·simp (disch := omega) only [ss, hml, hg, hf, wG2, hlim]
   obtain ⟨h1, h2⟩ := ih (i + 1) (y ++ [n]) (by omega) (by omega) (by simp; omega)
   refine ⟨fun ns hns => ?_, fun ⟨s, hs, hs2⟩ => ?_⟩
   ·cases ns with
    | nil => exact hns.elim
    | cons m ns =>
     have e := zI hns.1 hn
     subst e
     refine (h1 ns hns.2).trans ?_
     rw [hH2]
     rfl
   ·refine h2 ?_
    rcases sG2.1 hs with rfl | hs
    ·exact absurd hn (hs2 n)
    ·exact ⟨s, hs, hs2⟩
  ·simp (disch := omega) only [ss, hml, hg, hf]
   refine ⟨fun ns hns => ?_, fun _ => trivial⟩
   cases ns with
   | nil => exact hns.elim
   | cons m ns => exact absurd hns.1 (hn m)
theorem bP {α β : Type} {R : α → β → Prop} : ∀ {l : List α} {m : List β}, All2 R l m → l.length = m.length
 | [], [], _ => rfl
 | _ :: l, _ :: m, h => by simp [bP h.2]
 | [], _ :: _, h => h.elim
 | _ :: _, [], h => h.elim
def isL (v : List UInt8) (r : List Int) : Prop := (mL r ∧ r.length ≤ 60) ∧ ∃ ns, All2 isN (segs 44 v) ns ∧ ns.length ≤ 60 ∧ ∀ x, x ∈ r ↔ x ∈ ns
theorem eY1 : ∀ (l : List Int) (p : Int), (dd p l).length ≤ l.length
 | [], _ => zG2 _
 | a :: l, p => by
  unfold dd
  have := eY1 l a
  split <;> simp <;> omega
theorem oA2 (l : List Int) : (dds l).length ≤ l.length := by
 cases l with
 | nil => exact zG2 _
 | cons a l => show (a :: dd a l).length ≤ _; simp [eY1]
theorem kH (v : List UInt8) (hv : v.length ≤ 50000) :
  (∃ r, isL v r ∧ uB.f (mkS v) = some (r, true, ()) ∧ iB.f (mkS v) = some (r, true, ())) ∨
  ((∀ r, ¬ isL v r) ∧ uB.f (mkS v) = some ([], false, ()) ∧ iB.f (mkS v) = some ([], false, ())) := by
 have hsl := jN 44 v
 have hS : yC.f (mkS v) ⟨#[44]⟩ = some ((segs 44 v).map mkS, ()) := lJ (c := 44) v (by omega)
 have hV : rB.f (mkS v) 44 = some ((segs 44 v).map mkS, ()) := aM 44 v (by omega)
 have hml : ((segs 44 v).map mkS).length = (segs 44 v).length := yG2 ..
 have h1 := eA2 (segs 44 v) (by omega) (fun s hs => by have := hsl.2 s hs; omega) _ 0 [] rfl (aH2 _) (zG2 _)
 have h2 := cW1 (segs 44 v) (by omega) (fun s hs => by have := hsl.2 s hs; omega) _ 0 [] rfl (aH2 _) (zG2 _)
 rw [yH2, eH2] at h1 h2
 have hf1 : uB.f (mkS v) = uB.l1 ((segs 44 v).map mkS) (segs 44 v).length 0 [] := by rw [uB.f_eq, hS, ← hml]; rfl
 have hf2 : iB.f (mkS v) = bif decide (((segs 44 v).length : Int) > 60) then some ([], false, ()) else iB.l1 ((segs 44 v).map mkS) 0 [] := by rw [iB.f_eq, hV, ← hml]; rfl
 rcases pO1 (segs 44 v) with ⟨ns, hns⟩ | hbad
 ·have hlen := bP hns
  have e1 := h1.1 ns hns
  have e2 := h2.1 ns hns
  rw [eI2] at e1 e2
  by_cases h60 : (ns.length : Int) > 60
  ·refine .inr ⟨fun r hr => ?_, ?_, ?_⟩
   ·obtain ⟨_, ms, h3, h4, _⟩ := hr
    have := bP h3
    omega
   ·rw [hf1, e1]
    unfold dH1
    simp (disch := omega) only [ss]
   ·rw [hf2]
    simp (disch := omega) only [ss]
  ·obtain ⟨r, h3, h4, h5, h6⟩ := wK1 (y := ns) (by omega)
   obtain ⟨q, h7, h8, h9⟩ := tW ns (by omega)
   have e : q = dds r := lR h8 h5 fun x => (h9 x).trans (h6 x).symm
   subst e
   refine .inl ⟨dds r, ⟨⟨h5, by have := oA2 r; omega⟩, ns, hns, by omega, h6⟩, ?_, ?_⟩
   ·rw [hf1, e1]
    unfold dH1
    simp (disch := omega) only [ss, h3, uS r (by omega)]
   ·rw [hf2, e2]
    simp (disch := omega) only [ss, h7]
 ·refine .inr ⟨fun r hr => ?_, ?_, ?_⟩
  ·obtain ⟨_, ms, h3, _, _⟩ := hr
   obtain ⟨s, hs, hs2⟩ := hbad
   have : ∀ (p : List (List UInt8)) (ms : List Int), All2 isN p ms → s ∈ p → ∃ n, isN s n := by
    intro p
    induction p with
    | nil => intro ms _ h; cases h
    | cons t p ih =>
     intro ms h hm
     cases ms with
     | nil => exact h.elim
     | cons m ms =>
      rcases sG2.1 hm with rfl | hm
      ·exact ⟨m, h.1⟩
      ·exact ih ms h.2 hm
   obtain ⟨n, hn⟩ := this _ ms h3 hs
   exact hs2 n hn
  ·rw [hf1, h1.2 hbad]
  ·rw [hf2, h2.2 hbad]
   cases decide (((segs 44 v).length : Int) > 60) <;> rfl
def wd : List (List UInt8) := [[77, 79], [84, 85], [87, 69], [84, 72], [70, 82], [83, 65], [83, 85]]
theorem uH : jF.f = some (wd.map mkS, ()) := by rw [jF.f_eq]; rfl
theorem sK1 : xF.f = some (wd.map mkS, ()) := by rw [xF.f_eq]; rfl
theorem gA1 : ∀ (l : List (List UInt8)) (v : List UInt8) (i : Int), 0 ≤ i → posF i l v < i + l.length
 | [], v, i, h => by simp [posF]; omega
 | w :: l, v, i, h => by
  unfold posF
  split
  ·simp; omega
  ·have := gA1 l v (i + 1) (by omega)
   simp
   omega
def isD (s : List UInt8) (n w : Int) : Prop := 2 ≤ s.length ∧ w = posF 0 wd (s.drop (s.length - 2)) ∧ 0 ≤ w ∧ ((s.take (s.length - 2) = [] ∧ n = 0) ∨ (s.take (s.length - 2) ≠ [] ∧ isN (s.take (s.length - 2)) n ∧ n ≠ 0))
theorem mX1 {s : List UInt8} {n w : Int} (h : isD s n w) : 0 ≤ w ∧ w ≤ 6 ∧ -999999999 ≤ n ∧ n ≤ 999999999 := by
 obtain ⟨_, h2, h3, h4⟩ := h
 have h5 := gA1 wd (s.drop (s.length - 2)) 0 (by omega)
 have h6 : (wd.length : Int) = 7 := rfl
 refine ⟨h3, by omega, ?_⟩
 rcases h4 with ⟨_, rfl⟩ | ⟨_, h7, _⟩
 ·omega
 ·exact h7.2
theorem zO {s : List UInt8} {n w m v : Int} (h : isD s n w) (g : isD s m v) : n = m ∧ w = v := by
 obtain ⟨_, h2, _, h4⟩ := h
 obtain ⟨_, g2, _, g4⟩ := g
 refine ⟨?_, by rw [h2, g2]⟩
 rcases h4 with ⟨h5, h6⟩ | ⟨h5, h6, _⟩ <;> rcases g4 with ⟨g5, g6⟩ | ⟨g5, g6, _⟩
 ·rw [h6, g6]
 ·exact absurd h5 g5
 ·exact absurd g5 h5
 ·exact zI h6 g6
theorem sT1 (s : List UInt8) (hs : s.length ≤ 100000) :
  (∃ n w, isD s n w ∧ iN.f (mkS s) = some ((n, w, ()), true, ())) ∨ ((∀ n w, ¬ isD s n w) ∧ ∃ d, iN.f (mkS s) = some (d, false, ())) := by
 rw [iN.f_eq]
 by_cases c1 : (s.length : Int) < 2
 ·refine .inr ⟨fun n w h => ?_, (0, 0, ()), ?_⟩
  ·have := h.1
   omega
  ·simp (disch := omega) only [ss, szS]
 ·have w1 : w6 ((s.length : Int) - 2) = ((s.length - 2 : Nat) : Int) := by rw [wr (by omega) (by omega)]; omega
  have x1 : (mkS s).extract (s.length - 2) s.length = mkS (s.drop (s.length - 2)) := nI (by rw [← szS s, dM, B_mk, B_mk])
  have x2 : (mkS s).extract 0 (s.length - 2) = mkS (s.take (s.length - 2)) := nI (by rw [dQ, B_mk, B_mk])
  have hI := gJ wd (s.drop (s.length - 2)) (by decide)
  have hm : (⟨#[]⟩ : ByteArray) = mkS [] := rfl
  simp (disch := omega) only [ss, szS, w1, x1, x2, uH, hI, kE, hm]
  have hp := (bO wd (s.drop (s.length - 2)) 0 (by omega)).2
  by_cases c2 : s.take (s.length - 2) = []
  ·have e : decide (mkS (s.take (s.length - 2)) = mkS []) = true := dp (by rw [c2])
   rw [e, cond_true]
   by_cases c3 : posF 0 wd (s.drop (s.length - 2)) ≥ 0
   ·rw [dp c3]
    exact .inl ⟨0, _, ⟨by omega, rfl, c3, .inl ⟨c2, rfl⟩⟩, rfl⟩
   ·rw [dn c3]
    refine .inr ⟨fun n w h => ?_, _, rfl⟩
    have h2 := h.2.1
    have h3 := h.2.2.1
    omega
  ·have e : decide (mkS (s.take (s.length - 2)) = mkS []) = false := dn fun q => c2 (xM q)
   rw [e, cond_false]
   rcases wJ (s.take (s.length - 2)) (by rw [cH2]; omega) with ⟨n, hn, hf⟩ | ⟨hn, n, hf⟩
   ·rw [hf]
    simp only [qG2, cond_true]
    by_cases c4 : n = 0
    ·simp (disch := omega) only [ss]
     refine .inr ⟨fun m w h => ?_, _, rfl⟩
     rcases h.2.2.2 with ⟨h5, _⟩ | ⟨_, h6, h7⟩
     ·exact c2 h5
     ·exact h7 ((zI h6 hn).trans c4)
    ·simp (disch := omega) only [ss]
     by_cases c3 : posF 0 wd (s.drop (s.length - 2)) ≥ 0
     ·rw [dp c3]
      exact .inl ⟨n, _, ⟨by omega, rfl, c3, .inr ⟨c2, hn, c4⟩⟩, rfl⟩
     ·rw [dn c3]
      refine .inr ⟨fun m w h => ?_, _, rfl⟩
      have h2 := h.2.1
      have h3 := h.2.2.1
      omega
   ·rw [hf]
    simp only [qG2, cond_false]
    refine .inr ⟨fun m w h => ?_, _, rfl⟩
    rcases h.2.2.2 with ⟨h5, _⟩ | ⟨_, h6, _⟩
    ·exact c2 h5
    ·exact hn m h6
theorem bG2 (x4 : List ByteArray) (x6 x8 x9 : Int) : cA.l4 x4 x6 x8 x9 = cA.l4a x4 x6 x8 x9 [] := by rw [cA.l4_eq, cA.l4a_eq]
theorem kA2 (x4 : List ByteArray) (x6 x8 x9 : Int) (b : Bool) : cA.l3 x4 x6 x8 x9 b = cA.l3a x4 x6 x8 x9 b [] := by rw [cA.l3_eq, cA.l3a_eq, bG2]
theorem aF2 (x4 : List ByteArray) (x6 x7 x8 x9 : Int) (b : Bool) : cA.l2 x4 x6 x7 x8 x9 b = cA.l2a x4 x6 x7 x8 x9 b [] := by rw [cA.l2_eq, cA.l2a_eq, kA2, kA2, kA2]
theorem eG2 (x4 : List ByteArray) (x6 : Int) : cA.l1 x4 x6 = cA.l1a x4 x6 [] := by
 rw [cA.l1_eq, cA.l1a_eq]
 simp only [aF2]
theorem yN1 (p : List (List UInt8)) (hp : p.length ≤ 100000) (i : Nat) (hi : i < p.length) (hpl : (p.getD i []).length ≤ 100000) (y : List Int) (hy : y.length ≤ i) :
  (∀ n w, isD (p.getD i []) n w → cA.l1a (p.map mkS) i y = cA.l1a (p.map mkS) (i + 1 : Nat) (y ++ [7 * n + w])) ∧
  ((∀ n w, ¬ isD (p.getD i []) n w) → cA.l1a (p.map mkS) i y = some ([], false, ())) := by
 have hlim : vC = 17179869184 := rfl
 have hml : (p.map mkS).length = p.length := yG2 ..
 have hg := gm p i hi
 generalize hs : p.getD i [] = s at hg hpl
 have key : cA.l1a (p.map mkS) i y = bif decide ((s.length : Int) < 2) then (some ([], false, ())) else
   (bif decide (((s.length - 2 : Nat) : Int) > 0) then ((eD.f (mkS (s.take (s.length - 2)))).bind fun t8 => cA.l2a (p.map mkS) i ((s.length - 2 : Nat) : Int) (if s.drop (s.length - 2) = [] then -1 else posF 0 wd (s.drop (s.length - 2))) t8.1 t8.2.1 y)
    else cA.l2a (p.map mkS) i ((s.length - 2 : Nat) : Int) (if s.drop (s.length - 2) = [] then -1 else posF 0 wd (s.drop (s.length - 2))) 0 true y) := by
  rw [cA.l1a_eq]
  by_cases c1 : (s.length : Int) < 2
  ·simp (disch := omega) only [ss, hml, hg, szS]
  ·have w1 : w6 ((s.length : Int) - 2) = ((s.length - 2 : Nat) : Int) := by rw [wr (by omega) (by omega)]; omega
   have x1 : (mkS s).extract (s.length - 2) s.length = mkS (s.drop (s.length - 2)) := nI (by rw [← szS s, dM, B_mk, B_mk])
   have x2 : (mkS s).extract 0 (s.length - 2) = mkS (s.take (s.length - 2)) := nI (by rw [dQ, B_mk, B_mk])
   have hW := vP wd (s.drop (s.length - 2)) (by decide)
   simp (disch := omega) only [ss, hml, hg, szS, w1, x1, sK1, hW, x2]
 rw [key]
 by_cases c1 : (s.length : Int) < 2
 ·rw [dp c1, cond_true]
  refine ⟨fun n w h => ?_, fun _ => rfl⟩
  have := h.1
  omega
 ·rw [dn c1, cond_false]
  have hne : s.drop (s.length - 2) ≠ [] := fun q => by
   have := congrArg List.length q
   rw [lH2, aI2] at this
   omega
  rw [if_neg hne]
  have hp2 := (bO wd (s.drop (s.length - 2)) 0 (by omega)).2
  have hp3 := gA1 wd (s.drop (s.length - 2)) 0 (by omega)
  have h7 : (wd.length : Int) = 7 := rfl
  have tail : ∀ n w, isD s n w → w = posF 0 wd (s.drop (s.length - 2)) → cA.l3a (p.map mkS) i w n false y = cA.l1a (p.map mkS) (i + 1 : Nat) (y ++ [7 * n + w]) := by
   intro n w h _
   have hb := mX1 h
   rw [cA.l3a_eq]
   simp (disch := omega) only [ss, cA.l4a_eq, wG2, hlim]
   rfl
  have stop : ∀ n w, cA.l3a (p.map mkS) i w n true y = some ([], false, ()) := fun n w => by
   rw [cA.l3a_eq, cond_true]
  by_cases c3 : posF 0 wd (s.drop (s.length - 2)) < 0
  ·refine ⟨fun n w h => ?_, fun _ => ?_⟩
   ·have h2 := h.2.1
    have h3 := h.2.2.1
    omega
   ·by_cases c2 : ((s.length - 2 : Nat) : Int) > 0
    ·rw [dp c2, cond_true]
     rcases mI (s.take (s.length - 2)) (by rw [cH2]; omega) with ⟨n, hn, hf⟩ | ⟨hn, n, hf⟩
     ·simp (disch := omega) only [ss, hf, cA.l2a_eq, stop]
     ·simp (disch := omega) only [ss, hf, cA.l2a_eq, stop]
    ·rw [dn c2, cond_false]
     simp (disch := omega) only [ss, cA.l2a_eq, stop]
  ·by_cases c2 : ((s.length - 2 : Nat) : Int) > 0
   ·have hnt : s.take (s.length - 2) ≠ [] := fun q => by
     have := congrArg List.length q
     rw [cH2, aI2] at this
     omega
    rw [dp c2, cond_true]
    rcases mI (s.take (s.length - 2)) (by rw [cH2]; omega) with ⟨n, hn, hf⟩ | ⟨hn, n, hf⟩
    ·simp (disch := omega) only [ss, hf, cA.l2a_eq]
     by_cases c4 : n = 0
     ·rw [dp c4, stop]
      refine ⟨fun m w h => ?_, fun _ => rfl⟩
      rcases h.2.2.2 with ⟨h5, _⟩ | ⟨_, h6, h8⟩
      ·exact absurd h5 hnt
      ·exact absurd ((zI h6 hn).trans c4) h8
     ·have hD : isD s n (posF 0 wd (s.drop (s.length - 2))) := ⟨by omega, rfl, by omega, .inr ⟨hnt, hn, c4⟩⟩
      rw [dn c4, tail n _ hD rfl]
      refine ⟨fun m w h => ?_, fun h => absurd hD (h _ _)⟩
      obtain ⟨e1, e2⟩ := zO h hD
      rw [e1, e2]
    ·simp (disch := omega) only [ss, hf, cA.l2a_eq, stop]
     refine ⟨fun m w h => ?_, fun _ => trivial⟩
     rcases h.2.2.2 with ⟨h5, _⟩ | ⟨_, h6, _⟩
     ·exact absurd h5 hnt
     ·exact absurd h6 (hn m)
   ·have hnt : s.take (s.length - 2) = [] := iH2 (by rw [cH2]; omega)
    have hD : isD s 0 (posF 0 wd (s.drop (s.length - 2))) := ⟨by omega, rfl, by omega, .inl ⟨hnt, rfl⟩⟩
    rw [dn c2, cond_false]
    simp (disch := omega) only [ss, cA.l2a_eq]
    rw [tail 0 _ hD rfl]
    refine ⟨fun m w h => ?_, fun h => absurd hD (h _ _)⟩
    obtain ⟨e1, e2⟩ := zO h hD
    rw [e1, e2]
abbrev vN (l : List Dy) : Prop := l.Pairwise dyLt
theorem aO : ∀ {a b : List Dy}, vN a → vN b → (∀ x, x ∈ a ↔ x ∈ b) → a = b
 | [], [], _, _, _ => rfl
 | [], y :: b, _, _, h => by have := (h y).2 uG2; cases this
 | x :: a, [], _, _, h => by have := (h x).1 uG2; cases this
 | x :: a, y :: b, ha, hb, h => by
  have ha := vH2.1 ha
  have hb := vH2.1 hb
  have irr : ∀ q : Dy, ¬ dyLt q q := fun q hq => by unfold dyLt at hq; omega
  have asy : ∀ q r : Dy, dyLt q r → dyLt r q → False := fun q r h g => by unfold dyLt at *; omega
  have e : x = y := by
   have h1 := (h x).1 uG2
   have h2 := (h y).2 uG2
   rcases sG2.1 h1 with h1 | h1
   ·exact h1
   ·rcases sG2.1 h2 with h2 | h2
    ·exact h2.symm
    ·exact (asy _ _ (hb.1 x h1) (ha.1 y h2)).elim
  subst e
  rw [aO ha.2 hb.2 fun z => ?_]
  have h3 := h z
  simp only [sG2] at h3
  constructor
  ·intro hz
   rcases h3.1 (.inr hz) with h4 | h4
   ·exact (irr _ (h4 ▸ ha.1 z hz)).elim
   ·exact h4
  ·intro hz
   rcases h3.2 (.inr hz) with h4 | h4
   ·exact (irr _ (h4 ▸ hb.1 z hz)).elim
   ·exact h4
theorem vP1 : ∀ (l : List Dy) (p x : Dy), x ∈ ddT p l ∨ x = p ↔ x ∈ l ∨ x = p
 | [], p, x => by simp [ddT]
 | a :: l, p, x => by
  unfold ddT
  have ih := vP1 l a x
  by_cases h : a = p
  ·subst h
   rw [if_pos rfl, ih, sG2]
   constructor
   ·rintro (h | h)
    ·exact .inl (.inr h)
    ·exact .inr h
   ·rintro ((h | h) | h)
    ·exact .inr h
    ·exact .inl h
    ·exact .inr h
  ·rw [if_neg h, sG2, sG2]
   constructor
   ·rintro ((h1 | h1) | h1)
    ·exact .inl (.inl h1)
    ·rcases ih.1 (.inl h1) with h2 | h2
     ·exact .inl (.inr h2)
     ·exact .inl (.inl h2)
    ·exact .inr h1
   ·rintro ((h1 | h1) | h1)
    ·exact .inl (.inl h1)
    ·rcases ih.2 (.inl h1) with h2 | h2
     ·exact .inl (.inr h2)
     ·exact .inl (.inl h2)
    ·exact .inr h1
def dyLe (a b : Dy) : Prop := a.1 < b.1 ∨ a.1 = b.1 ∧ a.2.1 ≤ b.2.1
theorem cB2 {a b : Dy} (h : dyLe a b) (hne : ¬ b = a) : dyLt a b := by
 obtain ⟨a1, a2, ⟨⟩⟩ := a
 obtain ⟨b1, b2, ⟨⟩⟩ := b
 unfold dyLe at h
 unfold dyLt
 simp only at h ⊢
 by_cases h1 : a1 = b1
 ·by_cases h2 : a2 = b2
  ·exact absurd (by rw [h1, h2]) hne
  ·omega
 ·omega
theorem fF1 : ∀ (l : List Dy) (p : Dy), (p :: l).Pairwise dyLe → vN (p :: ddT p l)
 | [], p, _ => List.pairwise_singleton _ _
 | a :: l, p, h => by
  unfold ddT
  rw [vH2] at h
  have ih := fF1 l a h.2
  by_cases he : a = p
  ·subst he; rw [if_pos rfl]; exact ih
  ·rw [if_neg he]
   have hlt : dyLt p a := cB2 (h.1 a uG2) he
   refine vH2.2 ⟨fun b hb => ?_, ih⟩
   rcases sG2.1 hb with rfl | hb
   ·exact hlt
   ·have := (vH2.1 ih).1 b hb
    unfold dyLt at *
    omega
theorem jO1 : ∀ (l : List Dy) (p : Dy), (ddT p l).length ≤ l.length
 | [], _ => zG2 _
 | a :: l, p => by
  unfold ddT
  have := jO1 l a
  split <;> simp <;> omega
theorem zL1 {y : List Dy} (hy : y.length ≤ 1000000) (hb : ∀ d ∈ y, -1000000000 ≤ d.1 ∧ d.1 ≤ 1000000000 ∧ 0 ≤ d.2.1 ∧ d.2.1 ≤ 6) :
  ∃ r, bC.f y () = some (r, (), ()) ∧ r.length = y.length ∧ vN (ddsT r) ∧ (∀ x, x ∈ ddsT r ↔ x ∈ y) ∧ (ddsT r).length ≤ y.length := by
 have hall : y.all iI = true := pH2.2 fun d hd => by
  have := hb d hd
  unfold iI small
  simp only [oG2, decide_eq_true_eq]
  omega
 obtain ⟨r, hr⟩ : ∃ r : List Dy, oM iI vA1 fX y = some r := by unfold oM; rw [hall]; exact ⟨_, rfl⟩
 have hp : List.Perm (α := Dy) r y := oN nE1 hr
 have hso0 : List.Pairwise (α := Dy) (fun a b => ¬ fX b a < 0) r := tS nE1 hr
 have hso : r.Pairwise dyLe := hso0.imp fun {a b} h => by
  have h2 := sB1 b.1 b.2.1 a.1 a.2.1
  have h3 : decide (pO b.1 b.2.1 a.1 a.2.1 < 0) = false := decide_eq_false h
  rw [h3] at h2
  have := of_decide_eq_false h2.symm
  unfold dyLe
  omega
 have hf : bC.f y () = some (r, (), ()) := by
  rw [bC.f_sem]
  show (bif decide (List.length y ≤ vC) then (oM iI vA1 fX y).map (fun ys => (ys, (), ())) else none) = _
  rw [dp (by simp only [vC]; omega), cond_true, hr]
  rfl
 refine ⟨r, hf, hp.length_eq, ?_, fun x => ?_, ?_⟩
 ·cases r with
  | nil => exact List.Pairwise.nil
  | cons a r => exact fF1 r a hso
 ·have e : x ∈ ddsT r ↔ x ∈ r := by
   cases r with
   | nil => exact Iff.rfl
   | cons a r =>
    show x ∈ a :: ddT a r ↔ _
    rw [sG2, sG2]
    have := vP1 r a x
    constructor
    ·rintro (h | h)
     ·exact .inl h
     ·rcases this.1 (.inl h) with h | h
      ·exact .inr h
      ·exact .inl h
    ·rintro (h | h)
     ·exact .inl h
     ·rcases this.2 (.inl h) with h | h
      ·exact .inr h
      ·exact .inl h
  rw [e, hp.mem_iff]
 ·rw [← hp.length_eq]
  cases r with
  | nil => exact zG2 _
  | cons a r => show (a :: ddT a r).length ≤ _; simp [jO1]
def isDy (s : List UInt8) (d : Dy) : Prop := isD s d.1 d.2.1
theorem kS1 : ∀ p : List (List UInt8), (∃ ds : List Dy, All2 isDy p ds) ∨ ∃ s ∈ p, ∀ n w, ¬ isD s n w
 | [] => .inl ⟨[], trivial⟩
 | s :: p => by
  by_cases h : ∃ n w, isD s n w
  ·obtain ⟨n, w, hn⟩ := h
   rcases kS1 p with ⟨ns, h2⟩ | ⟨t, ht, h2⟩
   ·exact .inl ⟨(n, w, ()) :: ns, hn, h2⟩
   ·exact .inr ⟨t, tG2 _ ht, h2⟩
  ·exact .inr ⟨s, uG2, fun n w hn => h ⟨n, w, hn⟩⟩
noncomputable def sS1 (y : List Dy) : Option (List Dy × Bool × Unit) := bif decide ((y.length : Int) > 60) then (some ([], false, ())) else ((bC.f y ()).bind fun t3 => (bA.f t3.1).bind fun t4 => some (t4.1, true, ()))
theorem hV1 (p : List (List UInt8)) (hp : p.length ≤ 100000) (hpl : ∀ s ∈ p, s.length ≤ 100000) : ∀ (k i : Nat) (y : List Dy), p.length - i = k → i ≤ p.length → y.length ≤ i →
  (∀ ds, All2 isDy (p.drop i) ds → lC.l1 (p.map mkS) p.length i y = sS1 (y ++ ds)) ∧ ((∃ s ∈ p.drop i, ∀ n w, ¬ isD s n w) → lC.l1 (p.map mkS) p.length i y = some ([], false, ())) := by
 have hlim : vC = 17179869184 := rfl
 have hml : (p.map mkS).length = p.length := yG2 ..
 intro k
 induction k with
 | zero =>
  intro i y hk hi hy
  have e : i = p.length := by omega
  subst e
  rw [lC.l1_eq, gI2]
  simp (disch := omega) only [ss, hml]
  refine ⟨fun ns hns => ?_, fun ⟨s, hs, _⟩ => by cases hs⟩
  cases ns with
  | nil => rw [kH2]; rfl
  | cons _ _ => exact hns.elim
 | succ k ih =>
  intro i y hk hi hy
  have hlt : i < p.length := by omega
  have hg := gm p i hlt
  rw [lC.l1_eq, iC [] hlt]
  rcases sT1 (p.getD i []) (by have := hpl _ (iD [] hlt); omega) with ⟨n, w, hn, hf⟩ | ⟨hn, d, hf⟩
  ·simp (disch := omega) only [ss, hml, hg, hf, wG2, hlim]
   obtain ⟨h1, h2⟩ := ih (i + 1) (y ++ [(n, w, ())]) (by omega) (by omega) (by simp; omega)
   refine ⟨fun ns hns => ?_, fun ⟨s, hs, hs2⟩ => ?_⟩
   ·cases ns with
    | nil => exact hns.elim
    | cons m ns =>
     obtain ⟨m1, m2, ⟨⟩⟩ := m
     obtain ⟨e1, e2⟩ := zO hns.1 hn
     simp only at e1 e2
     subst e1 e2
     refine (h1 ns hns.2).trans ?_
     rw [hH2]
     rfl
   ·refine h2 ?_
    rcases sG2.1 hs with rfl | hs
    ·exact absurd hn (hs2 n w)
    ·exact ⟨s, hs, hs2⟩
  ·simp (disch := omega) only [ss, hml, hg, hf]
   refine ⟨fun ns hns => ?_, fun _ => trivial⟩
   cases ns with
   | nil => exact hns.elim
   | cons m ns => exact absurd hns.1 (hn _ _)
def keyD (d : Dy) : Int := 7 * d.1 + d.2.1
noncomputable def yD2 (y : List Int) : Option (List Dy × Bool × Unit) := (jA.f y).bind fun t9 => cA.l5 t9.1 0 []
theorem zN1 (p : List (List UInt8)) (hp : p.length ≤ 100000) (hpl : ∀ s ∈ p, s.length ≤ 100000) : ∀ (k i : Nat) (y : List Int), p.length - i = k → i ≤ p.length → y.length ≤ i →
  (∀ ds, All2 isDy (p.drop i) ds → cA.l1a (p.map mkS) i y = yD2 (y ++ ds.map keyD)) ∧ ((∃ s ∈ p.drop i, ∀ n w, ¬ isD s n w) → cA.l1a (p.map mkS) i y = some ([], false, ())) := by
 have hml : (p.map mkS).length = p.length := yG2 ..
 intro k
 induction k with
 | zero =>
  intro i y hk hi hy
  have e : i = p.length := by omega
  subst e
  rw [cA.l1a_eq, gI2]
  simp (disch := omega) only [ss, hml]
  refine ⟨fun ns hns => ?_, fun ⟨s, hs, _⟩ => by cases hs⟩
  cases ns with
  | nil => rw [List.map_nil, kH2]; rfl
  | cons _ _ => exact hns.elim
 | succ k ih =>
  intro i y hk hi hy
  have hlt : i < p.length := by omega
  obtain ⟨g1, g2⟩ := yN1 p hp i hlt (hpl _ (iD [] hlt)) y hy
  rw [iC [] hlt]
  by_cases h : ∃ n w, isD (p.getD i []) n w
  ·obtain ⟨n, w, hn⟩ := h
   rw [g1 n w hn]
   obtain ⟨h1, h2⟩ := ih (i + 1) (y ++ [7 * n + w]) (by omega) (by omega) (by simp; omega)
   refine ⟨fun ns hns => ?_, fun ⟨s, hs, hs2⟩ => ?_⟩
   ·cases ns with
    | nil => exact hns.elim
    | cons m ns =>
     obtain ⟨m1, m2, ⟨⟩⟩ := m
     obtain ⟨e1, e2⟩ := zO hns.1 hn
     simp only at e1 e2
     subst e1 e2
     refine (h1 ns hns.2).trans ?_
     rw [hH2]
     rfl
   ·refine h2 ?_
    rcases sG2.1 hs with rfl | hs
    ·exact absurd hn (hs2 n w)
    ·exact ⟨s, hs, hs2⟩
  ·have hn : ∀ n w, ¬ isD (p.getD i []) n w := fun n w hn => h ⟨n, w, hn⟩
   rw [g2 hn]
   refine ⟨fun ns hns => ?_, fun _ => rfl⟩
   cases ns with
   | nil => exact hns.elim
   | cons m ns => exact absurd hns.1 (hn _ _)
def decD (k : Int) : Dy := (k / 7, k % 7, ())
theorem xF2 (q : List Int) (hq : q.length ≤ 100000) (hb : ∀ k ∈ q, -10000000000 ≤ k ∧ k ≤ 10000000000) : ∀ (k i : Nat) (y : List Dy), q.length - i = k → i ≤ q.length → y.length ≤ i → cA.l5 q i y = some (y ++ (q.drop i).map decD, true, ()) := by
 have hlim : vC = 17179869184 := rfl
 intro k
 induction k with
 | zero =>
  intro i y hk hi hy
  have e : i = q.length := by omega
  subst e
  rw [cA.l5_eq, gI2]
  simp (disch := omega) only [ss]
  simp
 | succ k ih =>
  intro i y hk hi hy
  have hlt : i < q.length := by omega
  have hk2 := hb _ (iD 0 hlt)
  rw [cA.l5_eq, iC 0 hlt]
  simp only [tI2]
  generalize q.getD i 0 = v at hk2
  have e1 : w6 (Int.tmod v 7 + 7) = Int.tmod v 7 + 7 := by
   have h1 := Int.tmod_lt_of_pos v (show (0 : Int) < 7 by omega)
   have h2 := Int.lt_tmod_of_pos v (show (0 : Int) < 7 by omega)
   exact wr (by omega) (by omega)
  have e2 : Int.tmod (Int.tmod v 7 + 7) 7 = v % 7 := by
   by_cases h : 0 ≤ v
   ·rw [eJ2 h, eJ2 (by omega)]
    omega
   ·have h1 : Int.tmod v 7 = -((-v) % 7) := by
     have : Int.tmod v 7 = -Int.tmod (-v) 7 := by rw [Int.neg_tmod, Int.neg_neg]
     rw [this, eJ2 (by omega)]
    rw [h1, eJ2 (by omega)]
    omega
  have e3 : Int.tdiv (v - v % 7) 7 = v / 7 := by
   have : v - v % 7 = (v / 7) * 7 := by omega
   rw [this]
   exact Int.mul_tdiv_cancel _ (by omega)
  have e4 : w6 (v - v % 7) = v - v % 7 := wr (by omega) (by omega)
  have e5 : w6 (v / 7) = v / 7 := wr (by omega) (by omega)
  rw [e1, e2, e4, e3, e5]
  simp (disch := omega) only [ss, wG2, hlim]
  refine (ih (i + 1) (y ++ [(v / 7, v % 7, ())]) (by omega) (by omega) (by simp; omega)).trans ?_
  rw [hH2]
  rfl
def isDL (v : List UInt8) (r : List Dy) : Prop := (vN r ∧ r.length ≤ 60) ∧ ∃ ds, All2 isDy (segs 44 v) ds ∧ ds.length ≤ 60 ∧ ∀ x, x ∈ r ↔ x ∈ ds
theorem gX1 : ∀ {p : List (List UInt8)} {ds : List Dy}, All2 isDy p ds → ∀ d ∈ ds, -1000000000 ≤ d.1 ∧ d.1 ≤ 1000000000 ∧ 0 ≤ d.2.1 ∧ d.2.1 ≤ 6
 | [], [], _, d, hd => by cases hd
 | s :: p, x :: ds, h, d, hd => by
  rcases sG2.1 hd with rfl | hd
  ·have := mX1 h.1
   omega
  ·exact gX1 h.2 d hd
 | [], _ :: _, h, _, _ => h.elim
 | _ :: _, [], h, _, _ => h.elim
theorem aS (v : List UInt8) (hv : v.length ≤ 50000) :
  (∃ r, isDL v r ∧ lC.f (mkS v) = some (r, true, ()) ∧ cA.f (mkS v) = some (r, true, ())) ∨
  ((∀ r, ¬ isDL v r) ∧ lC.f (mkS v) = some ([], false, ()) ∧ cA.f (mkS v) = some ([], false, ())) := by
 have hsl := jN 44 v
 have hS : yC.f (mkS v) ⟨#[44]⟩ = some ((segs 44 v).map mkS, ()) := lJ (c := 44) v (by omega)
 have hV : rB.f (mkS v) 44 = some ((segs 44 v).map mkS, ()) := aM 44 v (by omega)
 have hml : ((segs 44 v).map mkS).length = (segs 44 v).length := yG2 ..
 have h1 := hV1 (segs 44 v) (by omega) (fun s hs => by have := hsl.2 s hs; omega) _ 0 [] rfl (aH2 _) (zG2 _)
 have h2 := zN1 (segs 44 v) (by omega) (fun s hs => by have := hsl.2 s hs; omega) _ 0 [] rfl (aH2 _) (zG2 _)
 rw [yH2, eH2] at h1 h2
 have hf1 : lC.f (mkS v) = lC.l1 ((segs 44 v).map mkS) (segs 44 v).length 0 [] := by rw [lC.f_eq, hS, ← hml]; rfl
 have hf2 : cA.f (mkS v) = bif decide (((segs 44 v).length : Int) > 60) then some ([], false, ()) else cA.l1a ((segs 44 v).map mkS) 0 [] := by rw [cA.f_eq, hV, ← hml, ← eG2]; rfl
 rcases kS1 (segs 44 v) with ⟨ds, hds⟩ | hbad
 ·have hlen := bP hds
  have hbd := gX1 hds
  have e1 := h1.1 ds hds
  have e2 := h2.1 ds hds
  rw [eI2] at e1 e2
  by_cases h60 : (ds.length : Int) > 60
  ·refine .inr ⟨fun r hr => ?_, ?_, ?_⟩
   ·obtain ⟨_, ms, h3, h4, _⟩ := hr
    have := bP h3
    omega
   ·rw [hf1, e1]
    unfold sS1
    simp (disch := omega) only [ss]
   ·rw [hf2]
    simp (disch := omega) only [ss]
  ·obtain ⟨r, h3, h4, h5, h6, h6l⟩ := zL1 (y := ds) (by omega) hbd
   have hkl : (ds.map keyD).length = ds.length := yG2 ..
   obtain ⟨q, h7, h8, h9⟩ := tW (ds.map keyD) (by omega)
   have hqb : ∀ k ∈ q, -10000000000 ≤ k ∧ k ≤ 10000000000 := fun k hk => by
    obtain ⟨d, hd, rfl⟩ := gH2.1 ((h9 k).1 hk)
    have := hbd d hd
    unfold keyD
    omega
   have hdk : ∀ d ∈ ds, decD (keyD d) = d := fun d hd => by
    have := hbd d hd
    obtain ⟨a, b, ⟨⟩⟩ := d
    unfold decD keyD
    simp only at this ⊢
    rw [show (7 * a + b) / 7 = a by omega, show (7 * a + b) % 7 = b by omega]
   have hrq : vN (q.map decD) := by
    rw [vN, List.pairwise_map]
    exact h8.imp fun {a b} h => by unfold dyLt decD; simp only; omega
   have hmem : ∀ x, x ∈ q.map decD ↔ x ∈ ds := fun x => by
    rw [gH2]
    constructor
    ·rintro ⟨k, hk, rfl⟩
     obtain ⟨d, hd, rfl⟩ := gH2.1 ((h9 k).1 hk)
     rw [hdk d hd]
     exact hd
    ·intro hx
     exact ⟨keyD x, (h9 _).2 (gH2.2 ⟨x, hx, rfl⟩), hdk x hx⟩
   have e : q.map decD = ddsT r := aO hrq h5 fun x => (hmem x).trans (h6 x).symm
   have hql : q.length ≤ 60 := by
    have := congrArg List.length e
    rw [yG2] at this
    omega
   have h10 := xF2 q (by omega) hqb _ 0 [] rfl (aH2 _) (zG2 _)
   rw [yH2, eI2, eH2, e] at h10
   refine .inl ⟨ddsT r, ⟨⟨h5, by omega⟩, ds, hds, by omega, h6⟩, ?_, ?_⟩
   ·rw [hf1, e1]
    unfold sS1
    simp (disch := omega) only [ss, h3, oB1 r (by omega)]
   ·rw [hf2, e2]
    unfold yD2
    simp (disch := omega) only [ss, h7, h10]
 ·refine .inr ⟨fun r hr => ?_, ?_, ?_⟩
  ·obtain ⟨_, ms, h3, _, _⟩ := hr
   obtain ⟨s, hs, hs2⟩ := hbad
   have : ∀ (p : List (List UInt8)) (ms : List Dy), All2 isDy p ms → s ∈ p → ∃ n w, isD s n w := by
    intro p
    induction p with
    | nil => intro ms _ h; cases h
    | cons t p ih =>
     intro ms h hm
     cases ms with
     | nil => exact h.elim
     | cons m ms =>
      rcases sG2.1 hm with rfl | hm
      ·exact ⟨_, _, h.1⟩
      ·exact ih ms h.2 hm
   obtain ⟨n, w, hn⟩ := this _ ms h3 hs
   exact hs2 n w hn
  ·rw [hf1, h1.2 hbad]
  ·rw [hf2, h2.2 hbad]
   cases decide (((segs 44 v).length : Int) > 60) <;> rfl
end Go.GV.YtidgapgbnlcjgaaGreatDoor
