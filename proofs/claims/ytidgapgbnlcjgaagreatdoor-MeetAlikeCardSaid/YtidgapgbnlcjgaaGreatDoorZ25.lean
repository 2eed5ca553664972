/-
Part of the words that the laws of this seat are proved with: no statement of its own, no conditions.
-/
import Derived.Test.YtidgapgbnlcjgaaGreatDoorZ24
set_option linter.unusedVariables false
set_option linter.unusedSimpArgs false
namespace Go.GV.YtidgapgbnlcjgaaGreatDoor
open Go.Proofs
theorem half {a b : Nat} (h : a + b < 4611686018427387904) : w6 (shrI .u64 (IntKind.u64.wrap (w6 ((a : Int) + (b : Int)))) 1) = (((a + b) / 2 : Nat) : Int) := by
 rw [wr (x := (a : Int) + (b : Int)) (by omega) (by omega), Go.IntWalk.u64_in ((a : Int) + (b : Int)) (by omega)]
 have e : shrI .u64 ((a : Int) + (b : Int)) 1 = (((a + b) / 2 : Nat) : Int) := by
  show Int.fdiv ((a : Int) + (b : Int)) (2 ^ (min (1 : Int).toNat 64)) = _
  rw [show min (1 : Int).toNat 64 = 1 from rfl, show (2 : Int) ^ 1 = 2 from rfl, Int.fdiv_eq_ediv_of_nonneg _ (by decide)]
  omega
 rw [e, wr (by omega) (by omega)]
theorem dV1 (a b : Int) : kI.f a b = some (decide (a < b), ()) := by
 rw [kI.f_eq]
 simp (disch := omega) only [ss, fH.f_eq, ne_eq, not_true_eq_false]
theorem zA2 (a : Int) : aF.f a = some (false, ()) := by
 rw [aF.f_eq]
 simp (disch := omega) only [ss, ne_eq, not_true_eq_false]
theorem vF2 {l : List Int} (hl : l.length ≤ 1000000) (hr : xO l) (t : Int) : ∀ (k a b : Nat), b - a ≤ k → a ≤ b → b ≤ l.length → (∀ j, j < a → l.getD j 0 < t) → (∀ j, b ≤ j → j < l.length → t ≤ l.getD j 0) →
  ∃ i : Nat, tA.l1 l t (l.length : Int) a b = some ((i : Int), decide (i < l.length ∧ l.getD i 0 = t), ()) ∧ i ≤ l.length ∧ (∀ j, j < i → l.getD j 0 < t) ∧ (∀ j, i ≤ j → j < l.length → t ≤ l.getD j 0) := by
 have done : ∀ a : Nat, a ≤ l.length → (∀ j, j < a → l.getD j 0 < t) → (∀ j, a ≤ j → j < l.length → t ≤ l.getD j 0) → ∃ i : Nat, tA.l1 l t (l.length : Int) a a = some ((i : Int), decide (i < l.length ∧ l.getD i 0 = t), ()) ∧ i ≤ l.length ∧ (∀ j, j < i → l.getD j 0 < t) ∧ (∀ j, i ≤ j → j < l.length → t ≤ l.getD j 0) := by
  intro a ha h1 h3
  rw [tA.l1_eq]
  refine ⟨a, ?_, ha, h1, h3⟩
  by_cases hc : a < l.length
  ·by_cases he : l.getD a 0 = t
   ·rw [dp (show a < l.length ∧ l.getD a 0 = t from ⟨hc, he⟩)]
    simp (disch := omega) only [ss]
   ·rw [dn (show ¬ (a < l.length ∧ l.getD a 0 = t) from fun q => he q.2)]
    simp (disch := omega) only [ss, zA2]
  ·rw [dn (show ¬ (a < l.length ∧ l.getD a 0 = t) from fun q => hc q.1)]
   simp (disch := omega) only [ss]
 intro k
 induction k with
 | zero =>
  intro a b hk hab hb h1 h3
  have e : a = b := by omega
  subst e
  exact done a hb h1 h3
 | succ k ih =>
  intro a b hk hab hb h1 h3
  by_cases he : a = b
  ·subst he; exact done a hb h1 h3
  ·rw [tA.l1_eq, half (by omega)]
   have hm1 : a ≤ (a + b) / 2 := by omega
   have hm2 : (a + b) / 2 < b := by omega
   generalize (a + b) / 2 = m at hm1 hm2
   simp (disch := omega) only [ss, dV1]
   by_cases hm : l.getD m 0 < t
   ·simp (disch := omega) only [ss]
    refine ih (m + 1) b (by omega) (by omega) hb (fun j hj => ?_) h3
    by_cases hjm : j = m
    ·subst hjm; exact hm
    ·have := iP hr (show j < m by omega) (by omega)
     omega
   ·simp (disch := omega) only [ss]
    refine ih a m (by omega) hm1 (by omega) h1 fun j hj1 hj2 => ?_
    by_cases hjm : j = m
    ·subst hjm; omega
    ·have := iP hr (show m < j by omega) hj2
     omega
theorem uD2 {l : List Int} (hl : l.length ≤ 1000000) (hr : xO l) (t : Int) : ∃ i : Nat, tA.f l t = some ((i : Int), decide (i < l.length ∧ l.getD i 0 = t), ()) ∧ i ≤ l.length ∧ (t ∈ l → i < l.length ∧ l.getD i 0 = t) := by
 obtain ⟨i, h1, h2, h3, h4⟩ := vF2 hl hr t l.length 0 l.length (by omega) (aH2 _) (zG2 _) (fun j hj => absurd hj (by omega)) (fun j h1 h2 => absurd h1 (by omega))
 rw [tA.f_eq]
 refine ⟨i, h1, h2, fun hm => ?_⟩
 obtain ⟨j, hj, e⟩ := tB1 hm
 have hij : i ≤ j := by
  refine Classical.byContradiction fun c => ?_
  have := h3 j (by omega)
  omega
 by_cases c : i = j
 ·subst c
  exact ⟨hj, e⟩
 ·have := iP hr (show i < j by omega) hj
  have := h4 i (zG2 _) (by omega)
  omega
def uO (ex : List Int) (e t : Int) : Bool := !(decide (t ∈ ex) || decide (t ≥ e))
theorem pP1 {p : Int → Bool} {x : Int} (h : p x = false) : List.filter p [x] = [] := by rw [List.filter_cons, h]; rfl
theorem xU1 {p : Int → Bool} {x : Int} (h : p x = true) : List.filter p [x] = [x] := by rw [List.filter_cons, h]; rfl
section
variable (z st du : Int) (rc : Bool) (f iv ct un wk : Int) (en : Bool) (mo we yd md : List Int) (dy : List (Int × Int × Unit)) (ho mi se po da ex : List Int) (e : Int)
theorem rD2 (hx : xO ex) (hl : ex.length ≤ 1000000) (t : Int) : zG.f t (z, st, du, rc, f, iv, ct, un, wk, en, mo, we, yd, md, dy, ho, mi, se, po, da, ex, ()) (e, ()) = some (!uO ex e t, (z, st, du, rc, f, iv, ct, un, wk, en, mo, we, yd, md, dy, ho, mi, se, po, da, ex, ()), (e, ()), ()) := by
 obtain ⟨i, h1, h2, h3⟩ := uD2 hl hx t
 have hd : decide (i < ex.length ∧ ex.getD i 0 = t) = decide (t ∈ ex) := decide_eq_decide.2 ⟨fun h => by rw [← h.2]; exact tT1 h.1, h3⟩
 rw [hd] at h1
 rw [zG.f_eq]
 dsimp only
 rw [h1]
 simp only [qG2]
 unfold uO
 by_cases c : t ∈ ex
 ·rw [dp c, cond_true, Bool.true_or]
  rfl
 ·rw [dn c, cond_false, Bool.false_or, Bool.not_not]
theorem pC2 (hx : xO ex) (hl : ex.length ≤ 1000000) (l : List Int) (hn : l.length ≤ 1000000) : ∀ (k i : Nat), l.length - i = k → i ≤ l.length →
  (∃ j, i ≤ j ∧ j < l.length ∧ uO ex e (l.getD j 0) = false ∧ (∀ q, i ≤ q → q < j → uO ex e (l.getD q 0) = true) ∧ cB.l1 (l.length : Int) (i : Int) l (z, st, du, rc, (f, iv, ct, un, wk, en, mo, we, yd, md, dy, ho, mi, se, po, ()), da, ex, ()) e = some ((j : Int), l, ((z, st, du, rc, f, iv, ct, un, wk, en, mo, we, yd, md, dy, ho, mi, se, po, da, ex, ()), (e, ()), ()), ())) ∨
  ((∀ q, i ≤ q → q < l.length → uO ex e (l.getD q 0) = true) ∧ cB.l1 (l.length : Int) (i : Int) l (z, st, du, rc, (f, iv, ct, un, wk, en, mo, we, yd, md, dy, ho, mi, se, po, ()), da, ex, ()) e = some (-1, l, ((z, st, du, rc, f, iv, ct, un, wk, en, mo, we, yd, md, dy, ho, mi, se, po, da, ex, ()), (e, ()), ()), ())) := by
 intro k
 induction k with
 | zero =>
  intro i hk hi
  refine .inr ⟨fun q h1 h2 => by omega, ?_⟩
  rw [cB.l1_eq]
  simp (disch := omega) only [ss]
 | succ k ih =>
  intro i hk hi
  have hlt : i < l.length := by omega
  rw [cB.l1_eq]
  dsimp only
  have h1 := rD2 z st du rc f iv ct un wk en mo we yd md dy ho mi se po da ex e hx hl (l.getD i 0)
  simp (disch := omega) only [ss, h1]
  cases hkp : uO ex e (l.getD i 0) with
  | false =>
   refine .inl ⟨i, zG2 _, hlt, hkp, fun q h1 h2 => by omega, ?_⟩
   rfl
  | true =>
   simp only [dI2, cond_false]
   rcases ih (i + 1) (by omega) (by omega) with ⟨j, a1, a2, a3, a4, a5⟩ | ⟨a1, a2⟩
   ·refine .inl ⟨j, by omega, a2, a3, fun q q1 q2 => ?_, a5⟩
    by_cases c : q = i
    ·rw [c]; exact hkp
    ·exact a4 q (by omega) q2
   ·refine .inr ⟨fun q q1 q2 => ?_, a2⟩
    by_cases c : q = i
    ·rw [c]; exact hkp
    ·exact a1 q (by omega) q2
theorem gC2 (hx : xO ex) (hl : ex.length ≤ 1000000) (l : List Int) (hn : l.length ≤ 1000000) : ∀ (k i p : Nat) (y : List Int), l.length - i = k → i ≤ l.length → p ≤ i → y.length = l.length → y.take p = (l.take i).filter (uO ex e) → y.drop i = l.drop i →
  iA.l2 (p : Int) (i : Int) y (z, st, du, rc, (f, iv, ct, un, wk, en, mo, we, yd, md, dy, ho, mi, se, po, ()), da, ex, ()) e = some (l.filter (uO ex e), ((z, st, du, rc, f, iv, ct, un, wk, en, mo, we, yd, md, dy, ho, mi, se, po, da, ex, ()), (e, ()), ()), ()) := by
 intro k
 induction k with
 | zero =>
  intro i p y hk hi hp hy ht hd
  have e1 : i = l.length := by omega
  subst e1
  rw [wJ2] at ht
  have hlen : (y.take p ++ List.replicate (y.length - p) 0).length = y.length := by simp; omega
  have htk : (y.take p ++ List.replicate (y.length - p) 0).take p = l.filter (uO ex e) := by
   rw [bK2 (by rw [cH2]; omega), List.take_take, Nat.min_self, ht]
  rw [iA.l2_eq]
  simp (disch := omega) only [ss, hlen, htk, iA.l3_eq]
 | succ k ih =>
  intro i p y hk hi hp hy ht hd
  have hlt : i < l.length := by omega
  have hg : y.getD i 0 = l.getD i 0 := by
   have h1 := iC 0 (show i < y.length by omega)
   have h2 := iC 0 hlt
   rw [hd, h2] at h1
   injection h1 with h1 _
   exact h1.symm
  have hd' : y.drop (i + 1) = l.drop (i + 1) := by
   have h1 := congrArg (List.drop 1) hd
   rwa [xJ2, xJ2] at h1
  have h1 := rD2 z st du rc f iv ct un wk en mo we yd md dy ho mi se po da ex e hx hl (l.getD i 0)
  rw [iA.l2_eq]
  dsimp only
  simp (disch := omega) only [ss, hg, h1]
  cases hkp : uO ex e (l.getD i 0) with
  | false =>
   simp only [kI2, cond_true, dI2, cond_false]
   exact ih (i + 1) p y (by omega) (by omega) (by omega) hy (by rw [tE 0 hlt, List.filter_append, ht, pP1 hkp, kH2]) hd'
  | true =>
   simp only [kI2, cond_true, dI2, cond_false]
   refine ih (i + 1) (p + 1) (y.set p (l.getD i 0)) (by omega) (by omega) (by omega) (by rw [mJ2]; exact hy) ?_ ?_
   ·rw [tE 0 hlt, List.filter_append, ← ht]
    rw [tE 0 (show p < (y.set p (l.getD i 0)).length by rw [mJ2]; omega), List.take_set_of_le (zG2 _)]
    congr 1
    rw [rG2, List.getElem?_set_self (by omega), zI2, xU1 hkp]
   ·rw [List.drop_set_of_lt (by omega)]
    exact hd'
theorem nU1 (hx : xO ex) (hl : ex.length ≤ 1000000) (l : List Int) (hn : l.length ≤ 1000000) : iA.f l ((z, st, du, rc, f, iv, ct, un, wk, en, mo, we, yd, md, dy, ho, mi, se, po, da, ex, ()), (e, ()), ()) = some (l.filter (uO ex e), ((z, st, du, rc, f, iv, ct, un, wk, en, mo, we, yd, md, dy, ho, mi, se, po, da, ex, ()), (e, ()), ()), ()) := by
 have hI : ∀ v, cB.l1 (l.length : Int) ((0 : Nat) : Int) l (z, st, du, rc, (f, iv, ct, un, wk, en, mo, we, yd, md, dy, ho, mi, se, po, ()), da, ex, ()) e = v → cB.f l ((z, st, du, rc, f, iv, ct, un, wk, en, mo, we, yd, md, dy, ho, mi, se, po, da, ex, ()), (e, ()), ()) = v := fun v h => by
  rw [cB.f_eq]
  exact h
 rw [iA.f_eq]
 dsimp only
 rcases pC2 z st du rc f iv ct un wk en mo we yd md dy ho mi se po da ex e hx hl l hn _ 0 rfl (aH2 _) with ⟨j, a1, a2, a3, a4, a5⟩ | ⟨a1, a2⟩
 ·rw [hI _ a5]
  simp (disch := omega) only [ss]
  refine gC2 z st du rc f iv ct un wk en mo we yd md dy ho mi se po da ex e hx hl l hn _ (j + 1) j l rfl (by omega) (by omega) rfl ?_ rfl
  rw [tE 0 a2, List.filter_append]
  have : (l.take j).filter (uO ex e) = l.take j := List.filter_eq_self.2 fun x hx => by
   obtain ⟨q, h1, h2⟩ := tB1 hx
   rw [cH2] at h1
   rw [← h2, rG2, List.getElem?_take_of_lt (by omega), ← rG2]
   exact a4 q (by omega) (by omega)
  rw [this, pP1 a3, kH2]
 ·rw [hI _ a2]
  simp (disch := omega) only [ss, iA.l1_eq]
  have : l.filter (uO ex e) = l := List.filter_eq_self.2 fun x hx => by
   obtain ⟨q, h1, h2⟩ := tB1 hx
   rw [← h2]
   exact a1 q (by omega) h1
  rw [this]
theorem bD1 (y : List Int) (hy : y.length ≤ 1000000) : jC.f y = some (y.mergeSort fun x y => decide (x ≤ y), ()) := by
 rw [jC.f_sem]
 show (bif decide (List.length y ≤ vC) then some (y.mergeSort fun x y => decide (x ≤ y), ()) else none) = _
 rw [dp (by simp only [vC]; omega), cond_true]
theorem jB1 (y : List Int) (hy : y.length ≤ 1000000) : yD.f y = some (y, ()) := by
 rw [yD.f_sem]
 show (bif decide (List.length y ≤ vC) then some (y, ()) else none) = _
 rw [dp (by simp only [vC]; omega), cond_true]
theorem rH1 (y : List Int) (x : Int) : x ∈ dds y ↔ x ∈ y := by
 cases y with
 | nil => exact Iff.rfl
 | cons a r =>
  show x ∈ a :: dd a r ↔ _
  rw [sG2, sG2]
  have := xN1 r a x
  exact ⟨fun h => (this.1 h.symm).symm, fun h => (this.2 h.symm).symm⟩
theorem oD1 (y : List Int) (h : y.Pairwise (· ≤ ·)) : xO (dds y) := by
 cases y with
 | nil => exact List.Pairwise.nil
 | cons a r => exact pZ r a h
theorem tD1 (y : List Int) : (y.mergeSort fun x y => decide (x ≤ y)).Pairwise (· ≤ ·) :=
 (List.pairwise_mergeSort (le := fun x y : Int => decide (x ≤ y)) (fun a b c h1 h2 => by simp at *; omega) (fun a b => by simp; omega) y).imp fun h => of_decide_eq_true h
theorem qY : ∀ (l : List Int) (p : Int), (dd p l).length ≤ l.length
 | [], _ => zG2 _
 | a :: l, p => by
  unfold dd
  have := qY l a
  split <;> simp <;> omega
theorem mH1 (y : List Int) : (dds y).length ≤ y.length := by
 cases y with
 | nil => exact zG2 _
 | cons a r => exact Nat.succ_le_succ (qY r a)
noncomputable def locL (l da ex : List Int) (e : Int) : List Int := (dds ((l ++ da).mergeSort fun x y => decide (x ≤ y))).filter (uO ex e)
theorem iU1 {l da ex : List Int} {e x : Int} : x ∈ locL l da ex e ↔ (x ∈ l ∨ x ∈ da) ∧ x ∉ ex ∧ x < e := by
 unfold locL uO
 rw [List.mem_filter, rH1, List.mem_mergeSort, xG2]
 simp
theorem nQ1 (l da ex : List Int) (e : Int) : xO (locL l da ex e) := List.Pairwise.filter _ (oD1 _ (tD1 _))
noncomputable def locE (l da ex : List Int) (e : Int) : Option (List Int × Int × Unit) := if ((locL l da ex e).length : Int) > 4096 then some ([], 10, ()) else some (locL l da ex e, 0, ())
theorem oZ1 (hx : xO ex) (hl : ex.length ≤ 1000000) (l : List Int) (h1 : l.length ≤ 400000) (h2 : da.length ≤ 400000) :
  pD.l1 l (z, st, du, rc, (f, iv, ct, un, wk, en, mo, we, yd, md, dy, ho, mi, se, po, ()), da, ex, ()) e = locE l da ex e ∧ pD.l1a (z, st, du, rc, (f, iv, ct, un, wk, en, mo, we, yd, md, dy, ho, mi, se, po, ()), da, ex, ()) e l = locE l da ex e := by
 have hlim : vC = 17179869184 := rfl
 have hs := bD1 (l ++ da) (by rw [pG2]; omega)
 have hc := uS ((l ++ da).mergeSort fun x y => decide (x ≤ y)) (by rw [List.length_mergeSort, pG2]; omega)
 have hdl := mH1 ((l ++ da).mergeSort fun x y => decide (x ≤ y))
 rw [List.length_mergeSort, pG2] at hdl
 have hd := nU1 z st du rc f iv ct un wk en mo we yd md dy ho mi se po da ex e hx hl (dds ((l ++ da).mergeSort fun x y => decide (x ≤ y))) (by omega)
 have hk := jB1 l (by omega)
 have fin : (bif decide (((locL l da ex e).length : Int) > 4096) then (some (([] : List Int), (10 : Int), ())) else (some (locL l da ex e, 0, ()))) = locE l da ex e := by
  unfold locE
  by_cases c : ((locL l da ex e).length : Int) > 4096
  ·rw [dp c, if_pos c]; rfl
  ·rw [dn c, if_neg c]; rfl
 rw [pD.l1_eq, pD.l1a_eq, hk]
 dsimp only
 simp only [qG2]
 rw [dp (by omega), cond_true, hs]
 simp only [qG2]
 rw [hc]
 simp only [qG2]
 rw [hd]
 exact ⟨fin, fin⟩
end
theorem iF2 : fF.f 3 = some (-62072524800, ()) := by
 have h := iH 3 1 1 0 0 0 (-718432) ⟨by decide, by decide⟩ (by omega) (by omega) (by omega)
 rw [show (-718432 : Int) * 86400 + 3600 * 0 + 60 * 0 + 0 = -62072524800 by omega] at h
 rw [fF.f_eq, h]
 rfl
theorem mE2 : fF.f 9998 = some (253339228800, ()) := by
 have h := iH 9998 1 1 0 0 0 2932167 ⟨by decide, by decide⟩ (by omega) (by omega) (by omega)
 rw [show (2932167 : Int) * 86400 + 3600 * 0 + 60 * 0 + 0 = 253339228800 by omega] at h
 rw [fF.f_eq, h]
 rfl
theorem qD2 : pD.f (0, 1767603600, 3600, true, r0, [], [], ()) 1772496000 = some ([1767603600, 1768208400], 0, ()) := by
 rw [pD.f_eq, ex_m]
 dsimp only
 simp only [qG2, dI2, cond_false, cond_true]
 rw [ex_l]
 simp only [qG2]
 have h := (oZ1 0 1767603600 3600 true 3 1 2 0 0 false [] [] [] [] [] [] [] [] [] [] [] 1772496000 List.Pairwise.nil (by simp) [1767603600, 1768208400] (by simp) (by simp)).1
 have hL : locL [1767603600, 1768208400] [] [] 1772496000 = [1767603600, 1768208400] := by
  refine oF1 (nQ1 _ _ _ _) (by unfold xO; simp) fun x => ?_
  rw [iU1]
  simp
  omega
 unfold locE at h
 rw [hL, if_neg (by simp)] at h
 exact h
theorem lW1 : qC.f (0, 1767603600, 3600, true, r0, [], [], ()) [(3600, [], [], 0, ())] 1772323200 = some ([(1767600000, 1767603600, ()), (1768204800, 1768208400, ())], 0, ()) := by
 let U : Int → Int := fun t => t - 3600
 have hU : okU (([(3600, [], [], 0, ())] : List Zn).getD (0 : Int).toNat zZ) U [1767603600, 1768208400] := by
  intro t ht
  simp only [sG2, List.not_mem_nil, or_false] at ht
  rcases ht with rfl | rfl
  ·exact ⟨cG2, by decide, by decide⟩
  ·exact ⟨jG2, by decide, by decide⟩
 obtain ⟨r, h1, h2, h3⟩ := qP1 [(3600, [], [], 0, ())] 1772323200 [1767603600, 1768208400] U (0, 1767603600, 3600, true, r0, [], [], ()) (by simp) (by simp) (by simp) hU
 have hs : spF U 3600 1772323200 [1767603600, 1768208400] = [(1767600000, 1767603600, ()), (1768204800, 1768208400, ())] := by decide
 have h1 : r.Perm [(1767600000, 1767603600, ()), (1768204800, 1768208400, ())] := by rw [← hs]; exact h1
 have hr : r = [(1767600000, 1767603600, ()), (1768204800, 1768208400, ())] := by
  have hl := h1.length_eq
  match r, hl with
  | [a, b], _ =>
   have ha := h1.mem_iff.1 (show a ∈ [a, b] by simp)
   have hb := h1.mem_iff.1 (show b ∈ [a, b] by simp)
   have hab := (vH2.1 h2).1 b (by simp)
   have q1 := h1.mem_iff.2 (show ((1767600000, 1767603600, ()) : Sp) ∈ _ by simp)
   have q2 := h1.mem_iff.2 (show ((1768204800, 1768208400, ()) : Sp) ∈ _ by simp)
   simp only [sG2, List.not_mem_nil, or_false] at ha hb q1 q2
   rcases ha with rfl | rfl <;> rcases hb with rfl | rfl
   ·simp at q2
   ·rfl
   ·simp at hab
   ·simp at q1
 subst hr
 rw [qC.f_eq, ex_m]
 dsimp only
 simp only [qG2, dI2, cond_false]
 rw [show xB1.f (([(3600, [], [], 0, ())] : List Zn).getD (0 : Int).toNat (0, [], [], 0, ())) = some (true, ()) from ex_z, iF2, mE2]
 simp (disch := omega) only [ss, qC.l1_eq, vG2, aI2]
 rw [show (1772323200 + 172800 : Int) = 1772496000 from rfl, qD2]
 simp (disch := omega) only [ss]
 rw [show (([1767603600, 1768208400] : List Int).length : Int) = ((([1767603600, 1768208400] : List Int).length : Nat) : Int) from rfl]
 refine Eq.trans h3 ?_
 decide
theorem zF : oD.f = some (true, ()) := by
 rw [oD.f_eq, ex_p, oE2]
 simp only [qG2, vG2, aI2]
 rw [lW1, ex_a, ex_b]
 simp only [qG2]
 rw [show w6 (1767600000 + 3600) = 1767603600 by rw [wr (by omega) (by omega)]; rfl, show w6 (1768204800 + 3600) = 1768208400 by rw [wr (by omega) (by omega)]; rfl, oW1 _ _ (by simp)]
 simp (disch := omega) only [ss]
theorem bR1 (m : Mt) (l : List UInt8) (hs : wG m) (e : Int) (he : mayM m ∨ e = 1) : vA.l3 (I l) e m = some (true, ()) := by
 rw [vA.l3_eq]
 obtain ⟨q, a, g, h1, h2, h3⟩ := xY l
 rw [h1]
 simp only [qG2]
 by_cases c : g = 0
 ·obtain ⟨ha, hq, hM⟩ := h2 c
  rw [dp c]
  simp only [dI2, cond_false]
  rcases lL q hq with ⟨hM', hl, hp⟩ | ⟨e2, hp, he2⟩
  ·have hb := bK q hq hM' hl
   simp (disch := omega) only [ss, hp, hb, zF, hM, yY q hq]
  ·obtain ⟨q2, a2, g2, k1, _⟩ := xY []
   have k1 : gA.f [] = some (q2, a2, g2, ()) := k1
   rcases he2 with ⟨_, hn⟩ | ⟨e3, _⟩
   ·exact absurd (iD2 q hq hM) hn
   ·subst e3
    simp (disch := omega) only [ss, hp, k1, zF, hM]
 ·rw [dn c]
  simp only [kI2, cond_true]
  by_cases hM : mayM m
  ·simp (disch := omega) only [ss, zF, bD2 m hs hM]
  ·have he1 : e = 1 := he.resolve_left hM
   simp (disch := omega) only [ss, zF, cE2 m hs hM]
theorem pB1 (m : Mt) (b : List Int) (ok : (c10).par.T.Ok (m, b, ())) : vA.f m b = some (true, ()) := by
 obtain ⟨_, ⟨_, ob⟩, _⟩ := ok
 have ob : ∀ x ∈ b, oT1 .u8 x := ob
 have eb := Go.GV.okI ob
 generalize (b.map fun n => UInt8.ofNat n.toNat) = l at eb
 subst eb
 have l1t : vA.l1 (I l) true m = some (true, ()) := by rw [vA.l1_eq, cond_true, zF]; rfl
 obtain ⟨b, hb, hsh⟩ := bB2 m
 rw [vA.f_eq, zF, hb]
 simp only [qG2, dI2, cond_false]
 cases b with
 | false => rw [kI2, cond_true, l1t]
 | true =>
  have hs := hsh rfl
  rw [dI2, cond_false]
  by_cases c : ((I l).length : Int) > 6000
  ·rw [dp c, l1t]
  ·rw [dn c, vA.l1_eq, cond_false]
   rcases lL m hs with ⟨hM, hl, hp⟩ | ⟨e, hp, he⟩
   ·rw [hp]
    have h3 := bR1 m l hs 0 (.inl hM)
    have hq := bK m hs hM hl
    simp (disch := omega) only [ss, qU, hq, yY m hs, vA.l2_eq, h3]
   ·rw [hp]
    have h3 := bR1 m l hs e (by rcases he with ⟨h, _⟩ | ⟨_, h⟩; exact .inr h; exact .inl h)
    have hne : ¬ e = 0 := by omega
    simp (disch := omega) only [ss, h3]
theorem aN1 {m n : Mt} (hm : wG m) (hn : wG n) (h1 : mayM m) (h2 : mayM n) (l1 : (jE (vE m)).length ≤ 4096) (h : jE (vE m) = jE (vE n)) : m = n := by
 have e1 := bK m hm h1 l1
 have e2 := bK n hn h2 (h ▸ l1)
 rw [h, e2] at e1
 exact ((Prod.mk.inj (nH2 e1)).1).symm
theorem zW (m n : Mt) : eB.f m n = some (true, ()) := by
 have l1t : eB.l1 true m n = some (true, ()) := by rw [eB.l1_eq, cond_true, zF]; rfl
 obtain ⟨b, hb, hsm⟩ := bB2 m
 obtain ⟨d, hd, hsn⟩ := bB2 n
 rw [eB.f_eq, zF, hb]
 simp only [qG2, dI2, cond_false]
 cases b with
 | false => rw [kI2, cond_true, l1t]
 | true =>
  rw [dI2, cond_false, hd]
  simp only [qG2]
  cases d with
  | false => rw [kI2, l1t]
  | true =>
   have hm := hsm rfl
   have hn := hsn rfl
   obtain ⟨u, hu, eu⟩ := tO m n hm
   obtain ⟨v, hv, ev⟩ := tO n m hn
   have huv : u = v := by
    have : u = true ↔ v = true := ⟨fun h => ev.2 (eu.1 h).symm, fun h => eu.2 (ev.1 h).symm⟩
    cases u <;> cases v <;> first | rfl | exact absurd (this.1 rfl) (by simp) | exact absurd (this.2 rfl) (by simp)
   subst huv
   have l2t : ∀ x y : List Int, eB.l2 x y true m n = some (true, ()) := fun x y => by
    rw [eB.l2_eq, cond_true, zF]
    simp (disch := omega) only [ss, hu, hv, beq_self_eq_true]
   rw [dI2, eB.l1_eq, cond_false]
   rcases lL m hm with ⟨h1, l1, p1⟩ | ⟨e1, p1, q1⟩
   ·rcases lL n hn with ⟨h2, l2, p2⟩ | ⟨e2, p2, q2⟩
    ·rw [p1, p2]
     have hiff : u = decide (mkS (jE (vE m)) = mkS (jE (vE n))) := by
      by_cases c : m = n
      ·rw [eu.2 c, dp (by rw [c])]
      ·have : u = false := by
        cases hu2 : u with
        | false => rfl
        | true => exact absurd (eu.1 hu2) c
       rw [this, dn fun h => c (aN1 hm hn h1 h2 l1 (xM h))]
     have fin : eB.l2 (I (jE (vE m))) (I (jE (vE n))) false m n = some (true, ()) := by
      rw [eB.l2_eq, cond_false, zF]
      simp (disch := omega) only [ss, hu, zJ.f_eq, uF1, kE, ← hiff, beq_self_eq_true]
     simp (disch := omega) only [ss, fin]
    ·rw [p1, p2]
     have hne : ¬ e2 = 0 := by omega
     simp (disch := omega) only [ss, l2t]
   ·have hne : ¬ e1 = 0 := by omega
    rcases lL n hn with ⟨h2, l2, p2⟩ | ⟨e2, p2, q2⟩
    ·rw [p1, p2]
     simp (disch := omega) only [ss, l2t]
    ·rw [p1, p2]
     simp (disch := omega) only [ss, l2t]
end Go.GV.YtidgapgbnlcjgaaGreatDoor
