/-
Part of the words that the laws of this seat are proved with: no statement of its own, no conditions.
-/
import Derived.Test.YtidgapgbnlcjgaaGreatDoorZ23
set_option linter.unusedVariables false
set_option linter.unusedSimpArgs false
namespace Go.GV.YtidgapgbnlcjgaaGreatDoor
open Go.Proofs
theorem eqI2 (a b : List Int) (ha : a.length ≤ 1000000) : lA.f a b = some (decide (a = b), ()) := by
 rw [lA.f_eq]
 by_cases hl : a.length = b.length
 ·have key : ∀ (k i : Nat), a.length - i = k → i ≤ a.length → lA.l1 a b a.length i = some (decide (a.drop i = b.drop i), ()) := by
   intro k
   induction k with
   | zero =>
    intro i hk hia
    have e1 : a.drop i = [] := List.drop_eq_nil_of_le (by omega)
    have e2 : b.drop i = [] := List.drop_eq_nil_of_le (by omega)
    rw [lA.l1_eq, e1, e2]
    simp (disch := omega) only [ss]
   | succ k ih =>
    intro i hk hia
    have h1 : i < a.length := by omega
    have h2 : i < b.length := by omega
    have := ih (i + 1) (by omega) (by omega)
    rw [lA.l1_eq, iC 0 h1, iC 0 h2]
    by_cases c : a.getD i 0 = b.getD i 0
    ·have e : decide (a.getD i 0 :: a.drop (i + 1) = b.getD i 0 :: b.drop (i + 1)) = decide (a.drop (i + 1) = b.drop (i + 1)) := decide_eq_decide.2 ⟨fun h => (rJ2 h).2, fun h => by rw [c, h]⟩
     rw [e]
     simp (disch := omega) only [ss]
     exact this
    ·have e : decide (a.getD i 0 :: a.drop (i + 1) = b.getD i 0 :: b.drop (i + 1)) = false := dn fun h => c (rJ2 h).1
     rw [e]
     simp (disch := omega) only [ss]
  have := key _ 0 rfl (aH2 _)
  rw [eH2, yH2, yH2] at this
  simp (disch := omega) only [ss, this]
 ·rw [dn (show ¬ a = b from fun h => hl (by rw [h]))]
  simp (disch := omega) only [ss]
theorem eqD2 (a b : List Dy) (ha : a.length ≤ 1000000) : mA.f a b = some (decide (a = b), ()) := by
 rw [mA.f_eq]
 by_cases hl : a.length = b.length
 ·have key : ∀ (k i : Nat), a.length - i = k → i ≤ a.length → mA.l1 a b a.length i = some (decide (a.drop i = b.drop i), ()) := by
   intro k
   induction k with
   | zero =>
    intro i hk hia
    have e1 : a.drop i = [] := List.drop_eq_nil_of_le (by omega)
    have e2 : b.drop i = [] := List.drop_eq_nil_of_le (by omega)
    rw [mA.l1_eq, e1, e2]
    simp (disch := omega) only [ss]
   | succ k ih =>
    intro i hk hia
    have h1 : i < a.length := by omega
    have h2 : i < b.length := by omega
    have := ih (i + 1) (by omega) (by omega)
    rw [mA.l1_eq, iC ((0, 0, ()) : Dy) h1, iC ((0, 0, ()) : Dy) h2]
    generalize hx : a.getD i ((0, 0, ()) : Dy) = x
    generalize hy : b.getD i ((0, 0, ()) : Dy) = y
    have hx' : a.getD i ((0, 0, ()) : Int × Int × Unit) = x := hx
    have hy' : b.getD i ((0, 0, ()) : Int × Int × Unit) = y := hy
    obtain ⟨x1, x2, ⟨⟩⟩ := x
    obtain ⟨y1, y2, ⟨⟩⟩ := y
    by_cases c : x1 = y1 ∧ x2 = y2
    ·obtain ⟨rfl, rfl⟩ := c
     have e : decide ((x1, x2, ()) :: a.drop (i + 1) = (x1, x2, ()) :: b.drop (i + 1)) = decide (a.drop (i + 1) = b.drop (i + 1)) := decide_eq_decide.2 ⟨fun h => (rJ2 h).2, fun h => by rw [h]⟩
     rw [e]
     simp (disch := omega) only [ss, hx', hy']
     exact this
    ·have e : decide ((x1, x2, ()) :: a.drop (i + 1) = (y1, y2, ()) :: b.drop (i + 1)) = false := dn fun h => c (by have := (rJ2 h).1; cases this; exact ⟨rfl, rfl⟩)
     rw [e]
     have e2 : (decide (x1 = y1) && decide (x2 = y2)) = false := by
      by_cases c1 : x1 = y1
      ·rw [dn (show ¬ x2 = y2 from fun h => c ⟨c1, h⟩), Bool.and_false]
      ·rw [dn c1, Bool.false_and]
     simp (disch := omega) only [ss, hx', hy', e2]
  have := key _ 0 rfl (aH2 _)
  rw [eH2, yH2, yH2] at this
  simp (disch := omega) only [ss, this]
 ·rw [dn (show ¬ a = b from fun h => hl (by rw [h]))]
  simp (disch := omega) only [ss]
theorem gZ (r q : Rl) (hr : jL r) : hE (cD.f r q) (r = q) := by
 unfold jL aT at hr
 obtain ⟨f, iv, ct, un, wk, en, mo, we, yd, md, dy, ho, mi, se, po, ⟨⟩⟩ := r
 obtain ⟨f', iv', ct', un', wk', en', mo', we', yd', md', dy', ho', mi', se', po', ⟨⟩⟩ := q
 dsimp only at hr
 obtain ⟨h1, h2, h3, h4, h5, h6, h7, h8, h9⟩ := hr
 have no : ∀ {p : Prop}, ¬ p → hE (some (false, ())) p := fun h => ⟨false, rfl, by simp [h]⟩
 rw [cD.f_eq]
 by_cases c : f = f'
 ·by_cases c1 : iv = iv'
  ·by_cases c2 : ct = ct'
   ·by_cases c3 : un = un'
    ·by_cases c4 : wk = wk'
     ·by_cases c5 : en = en'
      ·subst c c1 c2 c3 c4 c5
       simp (disch := omega) only [ss, beq_self_eq_true]
       rw [cD.l1_eq, cond_false, eqI2 mo mo' (by omega), eqI2 we we' (by omega), eqI2 yd yd' (by omega), eqI2 md md' (by omega), eqD2 dy dy' (by omega), eqI2 ho ho' (by omega), eqI2 mi mi' (by omega), eqI2 se se' (by omega), eqI2 po po' (by omega)]
       simp only [qG2]
       by_cases d1 : mo = mo'
       ·by_cases d2 : we = we'
        ·by_cases d3 : yd = yd'
         ·by_cases d4 : md = md'
          ·by_cases d5 : dy = dy'
           ·by_cases d6 : ho = ho'
            ·by_cases d7 : mi = mi'
             ·by_cases d8 : se = se'
              ·subst d1 d2 d3 d4 d5 d6 d7 d8
               simp only [decide_true, cond_true]
               refine ⟨_, rfl, ?_⟩
               rw [decide_eq_true_iff]
               exact ⟨fun h => by rw [h], fun h => by cases h; rfl⟩
              ·simp only [dp d1, dp d2, dp d3, dp d4, dp d5, dp d6, dp d7, dn d8, cond_true, cond_false]
               exact no fun h => d8 (by cases h; rfl)
             ·simp only [dp d1, dp d2, dp d3, dp d4, dp d5, dp d6, dn d7, cond_true, cond_false]
              exact no fun h => d7 (by cases h; rfl)
            ·simp only [dp d1, dp d2, dp d3, dp d4, dp d5, dn d6, cond_true, cond_false]
             exact no fun h => d6 (by cases h; rfl)
           ·simp only [dp d1, dp d2, dp d3, dp d4, dn d5, cond_true, cond_false]
            exact no fun h => d5 (by cases h; rfl)
          ·simp only [dp d1, dp d2, dp d3, dn d4, cond_true, cond_false]
           exact no fun h => d4 (by cases h; rfl)
         ·simp only [dp d1, dp d2, dn d3, cond_true, cond_false]
          exact no fun h => d3 (by cases h; rfl)
        ·simp only [dp d1, dn d2, cond_true, cond_false]
         exact no fun h => d2 (by cases h; rfl)
       ·simp only [dn d1, cond_false]
        exact no fun h => d1 (by cases h; rfl)
      ·have e : (en == en') = false := by cases en <;> cases en' <;> first | rfl | exact absurd rfl c5
       simp (disch := omega) only [ss, e, cD.l1_eq]
       exact no fun h => c5 (by cases h; rfl)
     ·simp (disch := omega) only [ss, cD.l1_eq]
      exact no fun h => c4 (by cases h; rfl)
    ·simp (disch := omega) only [ss, cD.l1_eq]
     exact no fun h => c3 (by cases h; rfl)
   ·simp (disch := omega) only [ss, cD.l1_eq]
    exact no fun h => c2 (by cases h; rfl)
  ·simp (disch := omega) only [ss, cD.l1_eq]
   exact no fun h => c1 (by cases h; rfl)
 ·simp (disch := omega) only [ss, cD.l1_eq]
  exact no fun h => c (by cases h; rfl)
theorem eK {p : Prop} [Decidable p] {X : Option (Bool × Unit)} {Q : Prop} (h : p → ∃ b, X = some (b, ()) ∧ (b = true → Q)) : ∃ b, (bif decide p then X else some (false, ())) = some (b, ()) ∧ (b = true → Q) := by
 by_cases c : p
 ·rw [dp c]
  exact h c
 ·rw [dn c]
  exact ⟨false, rfl, fun q => by cases q⟩
theorem sU1 (r : Rl) : ∃ b, vG.f r = some (b, ()) ∧ (b = true → jL r) := by
 rw [vG.f_eq]
 refine eK fun h1 => eK fun h2 => eK fun h3 => eK fun h4 => eK fun h5 => eK fun h6 => eK fun h7 => eK fun h8 => ⟨_, rfl, fun h9 => ?_⟩
 rw [decide_eq_true_iff] at h9
 unfold jL aT
 omega
theorem nA2 {r : Rl} (h : sh60 r) : jL r := aA1 h
theorem aG1 (s : List UInt8) (hs : s.length ≤ 5000) :
  (∃ R : Rl, qA.f (mkS s) = some (R, 0, 0, ()) ∧ sh60 R ∧ pA.f R = some (true, ())) ∨ (∃ (n : Nat) (e : Int), qA.f (mkS s) = some (zR, (n : Int), e, ()) ∧ e ≠ 0) := by
 obtain ⟨R, n, e, h1, _, hR⟩ := uL1 s (by omega)
 by_cases c : s.length ≤ 4096
 ·have p1 := hI1 s c
  have hsl := jN 59 s
  obtain ⟨a1, a2⟩ := vD1 (segs 59 s) (by omega) (fun t ht => by have := hsl.2 t ht; omega) _ 0 (0, 1, 0, 0, 0, false, [], [], [], [], [], [], [], [], [], ()) [] rfl (aH2 _) (zG2 _)
  by_cases g : ∃ us, All2 Good ((segs 59 s).drop 0) us ∧ (∀ u ∈ us, u.key ∉ ([] : List (List UInt8))) ∧ (keys us).Nodup
  ·obtain ⟨us, g1, g2, g3⟩ := g
   have x1 := a1 us g1 g2 g3
   rw [p1, x1] at h1
   unfold fin at x1 h1
   by_cases hF : FREQ ∈ [] ++ keys us
   ·rw [if_pos hF] at x1 h1
    cases hM : pA.f (fI (0, 1, 0, 0, 0, false, [], [], [], [], [], [], [], [], [], ()) us) with
    | none => rw [hM] at h1; cases h1
    | some b =>
     obtain ⟨b, ⟨⟩⟩ := b
     rw [hM] at x1 h1
     cases b with
     | true =>
      have h1 : some (fI (0, 1, 0, 0, 0, false, [], [], [], [], [], [], [], [], [], ()) us, (0 : Int), (0 : Int), ()) = some (R, n, e, ()) := h1
      have e1 : fI (0, 1, 0, 0, 0, false, [], [], [], [], [], [], [], [], [], ()) us = R := (Prod.mk.inj (nH2 h1)).1
      exact .inl ⟨_, p1.trans x1, e1 ▸ hR, hM⟩
     | false => exact .inr ⟨0, 1, p1.trans x1, by decide⟩
   ·rw [if_neg hF] at x1
    exact .inr ⟨0, 7, p1.trans x1, by decide⟩
  ·obtain ⟨n1, x1⟩ := a2 g
   exact .inr ⟨n1, 4, p1.trans x1, by decide⟩
 ·refine .inr ⟨0, 3, ?_, by decide⟩
  rw [qA.f_eq]
  simp (disch := omega) only [ss, szS]
  rfl
def Odd (c : UInt8) : Prop := ¬ (33 ≤ c.toNat ∧ c.toNat ≤ 126)
def wide (l : List UInt8) : Bool := l.all fun x => decide (33 ≤ x.toNat) && decide (x.toNat ≤ 126)
theorem fJ1 {l : List UInt8} : wide l = true ↔ allP l := by
 unfold wide allP
 simp only [pH2, oG2, decide_eq_true_eq]
theorem qH {c : UInt8} {l : List UInt8} (h : wide l = true) (hc : Odd c) : c ∉ l := fun q => hc (fJ1.1 h c q)
theorem cQ {c d : UInt8} (hc : Odd c) (h : wide [d] = true) : c ≠ d := fun e => qH h hc (qH2.2 e)
theorem lW {c : UInt8} (hc : Odd c) : ¬ dig c := fun q => hc (by unfold dig at q; omega)
theorem oH1 (w : List (List UInt8)) (h : w.all wide = true) : ∀ s ∈ w, wide s = true := fun s hs => pH2.1 h s hs
theorem xY1 {l : List UInt8} (h : ∀ c, Odd c → c ∉ l) : allP l := fun c hc => Classical.byContradiction fun q => h c q hc
theorem aG {a b : List UInt8} (ha : allP a) (hb : allP b) : allP (a ++ b) := fun c hc => (xG2.1 hc).elim (ha c) (hb c)
theorem vN1 {l : List UInt8} (h : digs l) : allP l := fun c hc => by
 have := h c hc
 unfold dig at this
 omega
theorem sN1 (n : Nat) : allP (Lib.decDigits n) := vN1 (eV n)
theorem rP {l : List UInt8} (h : wide l = true) : allP l := fJ1.1 h
theorem lG1 (d : UInt8) (hd : wide [d] = true) : ∀ l : List (List UInt8), (∀ s ∈ l, allP s) → allP (jn d l)
 | [], _ => fun c hc => by cases hc
 | [a], h => h a (by simp)
 | a :: b :: l, h => by
  show allP (a ++ d :: jn d (b :: l))
  exact aG (h a (by simp)) (aG (rP hd) (lG1 d hd (b :: l) fun s hs => h s (tG2 _ hs)))
theorem rK1 (t : Int) (h : -62135596800 ≤ t ∧ t ≤ 253402300799) : allP (utx t) := fun c hc => by
 rcases (xW t h).2.1 c hc with rfl | e
 ·decide
 ·unfold dig at e
  omega
theorem lD2 {s : List UInt8} (h : allP s) (hne : s ≠ []) : mayB s = true := by
 unfold mayB
 rw [oG2, oG2]
 refine ⟨pH2.2 fun c hc => ?_, ?_, ?_⟩
 ·have := h c hc
  unfold plB
  rw [dp (by omega), dp (by omega)]
  rfl
 ·cases s with
  | nil => exact absurd rfl hne
  | cons _ _ => rfl
 ·rw [dn (lP1 h)]
  rfl
theorem bI {c : UInt8} (h61 : c ≠ 61) {b : Bool} {name v : List UInt8} (hn : c ∉ name) (hv : b = true → c ∉ v) : ∀ s ∈ opt b name v, c ∉ s := by
 cases b with
 | false => intro s h; cases h
 | true =>
  intro s h
  have h : s = name ++ 61 :: v := qH2.1 h
  rw [h, xG2, sG2]
  rintro (q | q | q)
  ·exact hn q
  ·exact h61 q
  ·exact hv rfl q
theorem jM {c : UInt8} (hc : Odd c) (l : List Int) : c ∉ jn 44 (l.map Lib.itoa) := cR1 (cQ hc (by decide)) _ fun s h => by
 obtain ⟨n, _, e⟩ := gH2.1 h
 rw [← e]
 exact iK (cQ hc (by decide)) (lW hc)
theorem lB2 {c : UInt8} (hc : Odd c) (l : List Dy) : c ∉ jn 44 (l.map dt) := cR1 (cQ hc (by decide)) _ fun s h => by
 obtain ⟨n, _, e⟩ := gH2.1 h
 rw [← e]
 exact jB2 c (cQ hc (by decide)) (lW hc) (fun s hs => qH (oH1 wd (by decide) s hs) hc) n
section
variable (f iv ct un wk : Int) (en : Bool) (mo we yd md : List Int) (dy : List Dy) (ho mi se po : List Int)
theorem eQ1 {c : UInt8} (hc : Odd c) (hp : mayP f iv ct un wk en mo we yd md dy ho mi se po) : ∀ s ∈ wS f iv ct un wk en mo we yd md dy ho mi se po, c ∉ s := by
 obtain ⟨b1, b2, b3, _⟩ := pE1 f iv ct un wk en mo we yd md dy ho mi se po hp
 have hu : c ∉ utx un := fun q => by
  rcases (xW un b3).2.1 _ q with e | e
  ·exact cQ hc (by decide) e
  ·exact lW hc e
 have hi1 : c ∉ Lib.itoa iv := iK (cQ hc (by decide)) (lW hc)
 have hi2 : c ∉ Lib.itoa ct := iK (cQ hc (by decide)) (lW hc)
 have hw := gB2 c (fun s hs => qH (oH1 wd (by decide) s hs) hc) wk.toNat
 have hf := mD2 c (fun s hs => qH (oH1 fw (by decide) s hs) hc) (f - 1).toNat
 have h61 : c ≠ 61 := cQ hc (by decide)
 intro s hs
 unfold wS rest at hs
 rcases sG2.1 hs with e | hs
 ·rw [e]
  intro q
  rcases xG2.1 q with q | q
  ·exact qH (by decide) hc q
  rcases sG2.1 q with q | q
  ·exact cQ hc (by decide) q
  ·exact hf q
 ·rcases xG2.1 hs with hs | hs
  ·exact bI h61 (qH (by decide) hc) (fun _ => hi1) s hs
  rcases xG2.1 hs with hs | hs
  ·exact bI h61 (qH (by decide) hc) (fun _ => hi2) s hs
  rcases xG2.1 hs with hs | hs
  ·exact bI h61 (qH (by decide) hc) (fun _ => hu) s hs
  rcases xG2.1 hs with hs | hs
  ·exact bI h61 (qH (by decide) hc) (fun _ => jM hc _) s hs
  rcases xG2.1 hs with hs | hs
  ·exact bI h61 (qH (by decide) hc) (fun _ => jM hc _) s hs
  rcases xG2.1 hs with hs | hs
  ·exact bI h61 (qH (by decide) hc) (fun _ => jM hc _) s hs
  rcases xG2.1 hs with hs | hs
  ·exact bI h61 (qH (by decide) hc) (fun _ => jM hc _) s hs
  rcases xG2.1 hs with hs | hs
  ·exact bI h61 (qH (by decide) hc) (fun _ => lB2 hc _) s hs
  rcases xG2.1 hs with hs | hs
  ·exact bI h61 (qH (by decide) hc) (fun _ => jM hc _) s hs
  rcases xG2.1 hs with hs | hs
  ·exact bI h61 (qH (by decide) hc) (fun _ => jM hc _) s hs
  rcases xG2.1 hs with hs | hs
  ·exact bI h61 (qH (by decide) hc) (fun _ => jM hc _) s hs
  rcases xG2.1 hs with hs | hs
  ·exact bI h61 (qH (by decide) hc) (fun _ => jM hc _) s hs
  ·exact bI h61 (qH (by decide) hc) (fun _ => hw) s hs
end
theorem fU1 (r : Rl) (hs : jL r) (hM : pA.f r = some (true, ())) : allP (jn 59 (pts r)) :=
 lG1 59 (by decide) _ fun s hs' => xY1 fun c hc => eQ1 _ _ _ _ _ _ _ _ _ _ _ _ _ _ _ hc (kB1 hs hM) s hs'
def part (k : Nat) (u : UInt8) : List UInt8 := if k = 0 then [] else Lib.decDigits k ++ [u]
def durT (n : Nat) : List UInt8 :=
 if n % 604800 = 0 then [80] ++ Lib.decDigits (n / 604800) ++ [87]
 else if n % 86400 = 0 then [80] ++ part (n / 86400) 68
 else [80] ++ part (n / 86400) 68 ++ ([84] ++ part (n % 86400 / 3600) 72 ++ part (n % 86400 / 60 % 60) 77 ++ part (n % 86400 % 60) 83)
theorem xG {k : Nat} (u : UInt8) (h : k ≤ 999999999) : (part k u).length ≤ 10 := by
 have := (eL k).2 h
 unfold part
 split
 ·simp
 ·rw [pG2, wG2]; omega
theorem eK1 (k : Nat) (h : k ≤ 999999999) : sC.f (k : Int) = some (mkS (Lib.decDigits k), ()) := by
 rw [cK k (by omega) (by omega), yE (by omega), tI2]
theorem eQ (k : Nat) (u : UInt8) (h : k ≤ 999999999) : aD.f (k : Int) (mkS [u]) = some (mkS (part k u), ()) := by
 have hl := (eL k).2 h
 rw [aD.f_eq, eK1 k h]
 unfold part
 by_cases c : k = 0
 ·subst c
  rfl
 ·rw [if_neg c]
  simp (disch := omega) only [ss, szS, sH, wG2]
theorem pC1 (n : Nat) (h1 : 1 ≤ n) (h2 : n ≤ 2147483648) : tC.f (n : Int) = some (mkS (durT n), 0, ()) := by
 have e1 : Int.tmod (n : Int) 604800 = ((n % 604800 : Nat) : Int) := by rw [tmn (by omega)]; omega
 have e2 : w6 (Int.tdiv (n : Int) 604800) = ((n / 604800 : Nat) : Int) := by rw [tdn (by omega), wr (by omega) (by omega)]; omega
 have e3 : w6 (Int.tdiv (n : Int) 86400) = ((n / 86400 : Nat) : Int) := by rw [tdn (by omega), wr (by omega) (by omega)]; omega
 have e4 : Int.tmod (n : Int) 86400 = ((n % 86400 : Nat) : Int) := by rw [tmn (by omega)]; omega
 have e5 : w6 (Int.tdiv ((n % 86400 : Nat) : Int) 3600) = ((n % 86400 / 3600 : Nat) : Int) := by rw [tdn (by omega), wr (by omega) (by omega)]; omega
 have e6 : Int.tmod (w6 (Int.tdiv ((n % 86400 : Nat) : Int) 60)) 60 = ((n % 86400 / 60 % 60 : Nat) : Int) := by rw [tdn (by omega), wr (by omega) (by omega), tmn (by omega)]; omega
 have e7 : Int.tmod ((n % 86400 : Nat) : Int) 60 = ((n % 86400 % 60 : Nat) : Int) := by rw [tmn (by omega)]; omega
 have l1 := xG 68 (show n / 86400 ≤ 999999999 by omega)
 have l2 := xG 72 (show n % 86400 / 3600 ≤ 999999999 by omega)
 have l3 := xG 77 (show n % 86400 / 60 % 60 ≤ 999999999 by omega)
 have l4 := xG 83 (show n % 86400 % 60 ≤ 999999999 by omega)
 have l5 := (eL (n / 604800)).2 (by omega)
 have p1 : aD.f ((n / 86400 : Nat) : Int) ⟨#[68]⟩ = some (mkS (part (n / 86400) 68), ()) := eQ _ 68 (by omega)
 have p2 : aD.f ((n % 86400 / 3600 : Nat) : Int) ⟨#[72]⟩ = some (mkS (part (n % 86400 / 3600) 72), ()) := eQ _ 72 (by omega)
 have p3 : aD.f ((n % 86400 / 60 % 60 : Nat) : Int) ⟨#[77]⟩ = some (mkS (part (n % 86400 / 60 % 60) 77), ()) := eQ _ 77 (by omega)
 have p4 : aD.f ((n % 86400 % 60 : Nat) : Int) ⟨#[83]⟩ = some (mkS (part (n % 86400 % 60) 83), ()) := eQ _ 83 (by omega)
 have q80 : (⟨#[80]⟩ : ByteArray) = mkS [80] := rfl
 have q84 : (⟨#[84]⟩ : ByteArray) = mkS [84] := rfl
 have q87 : (⟨#[87]⟩ : ByteArray) = mkS [87] := rfl
 have hD := eK1 (n / 604800) (by omega)
 rw [tC.f_eq, dn (by omega), cond_false, dn (by omega), tC.l1_eq, cond_false, e1]
 unfold durT
 by_cases c : n % 604800 = 0
 ·rw [if_pos c, c]
  simp (disch := omega) only [ss, e2, hD, q80, q87, szS, sH, pG2, wG2]
 ·rw [if_neg c]
  by_cases c2 : n % 86400 = 0
  ·rw [if_pos c2]
   simp (disch := omega) only [ss, e3, e4, p1, q80, szS, sH, pG2, wG2]
  ·rw [if_neg c2]
   simp (disch := omega) only [ss, e3, e4, e5, e6, e7, p1, p2, p3, p4, q80, q84, szS, sH, pG2, wG2]
theorem iV1 (s : List UInt8) (tot a : Int) (i : Nat) (hi : i < s.length) (hl : s.length ≤ 100000) (hd : dig (s.getD i 0)) :
  eA.l1 (mkS s) tot a (s.length : Int) (i : Int) = eA.l1 (mkS s) tot a (s.length : Int) ((i + 1 : Nat) : Int) := by
 have hbt : bt (mkS s) (i : Int) = ((s.getD i 0).toNat : Int) := uM (mkS s) i
 unfold dig at hd
 conv => lhs; rw [eA.l1_eq]
 simp (disch := omega) only [ss, szS, hbt, eA.l2_eq]
 rfl
theorem uR1 (s : List UInt8) (tot a : Int) (i : Nat) (hi : i < s.length) (hl : s.length ≤ 100000) (hd : s.getD i 0 = 80 ∨ s.getD i 0 = 84) :
  eA.l1 (mkS s) tot a (s.length : Int) (i : Int) = eA.l1 (mkS s) tot ((i + 1 : Nat) : Int) (s.length : Int) ((i + 1 : Nat) : Int) := by
 have hbt : bt (mkS s) (i : Int) = ((s.getD i 0).toNat : Int) := uM (mkS s) i
 conv => lhs; rw [eA.l1_eq]
 rcases hd with e | e
 ·rw [e] at hbt
  have hbt : bt (mkS s) (i : Int) = 80 := hbt
  simp (disch := omega) only [ss, szS, hbt, eA.l2_eq]
  rfl
 ·rw [e] at hbt
  have hbt : bt (mkS s) (i : Int) = 84 := hbt
  simp (disch := omega) only [ss, szS, hbt, eA.l2_eq]
  rfl
def fR1 (c : UInt8) (u : Nat) : Prop := c = 87 ∧ u = 604800 ∨ c = 68 ∧ u = 86400 ∨ c = 72 ∧ u = 3600 ∨ c = 77 ∧ u = 60 ∨ c = 83 ∧ u = 1
theorem rB2 (s : List UInt8) (tot a i u : Nat) (hi : i < s.length) (hl : s.length ≤ 100000) (hu : fR1 (s.getD i 0) u) (ha : a < i) (h10 : i - a ≤ 10) (hd : digs ((s.drop a).take (i - a))) (ht : tot ≤ 2147483648) (hv : dval 0 ((s.drop a).take (i - a)) * u ≤ 2147483648) :
  eA.l1 (mkS s) (tot : Int) (a : Int) (s.length : Int) (i : Int) = eA.l1 (mkS s) ((tot + dval 0 ((s.drop a).take (i - a)) * u : Nat) : Int) ((i + 1 : Nat) : Int) (s.length : Int) ((i + 1 : Nat) : Int) := by
 have hbt : bt (mkS s) (i : Int) = ((s.getD i 0).toNat : Int) := uM (mkS s) i
 have hx : (mkS s).extract a i = mkS ((s.drop a).take (i - a)) := ex_S s a i
 have hn := (snum ((s.drop a).take (i - a)) (by rw [cH2, lH2]; omega)).1 hd
 have hl3 : ∀ unit : Nat, unit = u → eA.l3 (mkS s) (tot : Int) (a : Int) (i : Int) (unit : Int) (s.length : Int) (i : Int) = eA.l1 (mkS s) ((tot + dval 0 ((s.drop a).take (i - a)) * u : Nat) : Int) ((i + 1 : Nat) : Int) (s.length : Int) ((i + 1 : Nat) : Int) := by
  intro unit e
  subst e
  generalize dval 0 ((s.drop a).take (i - a)) = v at hn hv
  have w1 : w6 ((v : Int) * (unit : Int)) = ((v * unit : Nat) : Int) := by
   rw [← Int.natCast_mul, wr (by omega) (by omega)]
  rw [eA.l3_eq]
  simp (disch := omega) only [ss, szS, hx, hn, eA.l4_eq, w1]
  rfl
 conv => lhs; rw [eA.l1_eq]
 rcases hu with ⟨e, f⟩ | ⟨e, f⟩ | ⟨e, f⟩ | ⟨e, f⟩ | ⟨e, f⟩ <;> rw [e] at hbt
 ·have hbt : bt (mkS s) (i : Int) = 87 := hbt
  simp (disch := omega) only [ss, szS, hbt]
  exact hl3 604800 f.symm
 ·have hbt : bt (mkS s) (i : Int) = 68 := hbt
  simp (disch := omega) only [ss, szS, hbt]
  exact hl3 86400 f.symm
 ·have hbt : bt (mkS s) (i : Int) = 72 := hbt
  simp (disch := omega) only [ss, szS, hbt]
  exact hl3 3600 f.symm
 ·have hbt : bt (mkS s) (i : Int) = 77 := hbt
  simp (disch := omega) only [ss, szS, hbt]
  exact hl3 60 f.symm
 ·have hbt : bt (mkS s) (i : Int) = 83 := hbt
  simp (disch := omega) only [ss, szS, hbt]
  exact hl3 1 f.symm
theorem pK1 (pre d post : List UInt8) (c : UInt8) (tot u : Nat) (hl : (pre ++ (d ++ c :: post)).length ≤ 100000) (hd : digs d) (h1 : 1 ≤ d.length) (h10 : d.length ≤ 10) (hu : fR1 c u) (ht : tot ≤ 2147483648) (hv : dval 0 d * u ≤ 2147483648) :
  eA.l1 (mkS (pre ++ (d ++ c :: post))) (tot : Int) (pre.length : Int) ((pre ++ (d ++ c :: post)).length : Int) (pre.length : Int) =
   eA.l1 (mkS (pre ++ (d ++ c :: post))) ((tot + dval 0 d * u : Nat) : Int) ((pre.length + d.length + 1 : Nat) : Int) ((pre ++ (d ++ c :: post)).length : Int) ((pre.length + d.length + 1 : Nat) : Int) := by
 obtain ⟨s, hs⟩ : ∃ s, s = pre ++ (d ++ c :: post) := ⟨_, rfl⟩
 have hsl : s.length = pre.length + (d.length + (post.length + 1)) := by rw [hs]; simp
 have hx : (s.drop pre.length).take (pre.length + d.length - pre.length) = d := by
  rw [hs, nI2, Nat.add_sub_cancel_left, vI2]
 have hc : s.getD (pre.length + d.length) 0 = c := by
  rw [hs, ← hH2, rG2, ← pG2, rH2 (zG2 _), Nat.sub_self]
  rfl
 rw [← hs] at hl ⊢
 have hstep : ∀ j, pre.length ≤ j → j < pre.length + d.length → eA.l1 (mkS s) (tot : Int) (pre.length : Int) (s.length : Int) (j : Int) = eA.l1 (mkS s) (tot : Int) (pre.length : Int) (s.length : Int) ((j + 1 : Nat) : Int) := by
  intro j h1 h2
  refine iV1 s _ _ j (by omega) hl ?_
  have : s.getD j 0 = d.getD (j - pre.length) 0 := by
   rw [hs, rG2, rH2 h1, uH2 (by omega), ← rG2]
  rw [this]
  exact hd _ (iD 0 (by omega))
 have hloop := wQ (fun j : Nat => eA.l1 (mkS s) (tot : Int) (pre.length : Int) (s.length : Int) (j : Int)) (i := pre.length) (k := pre.length + d.length) (by omega) hstep
 have hu2 := rB2 s tot pre.length (pre.length + d.length) u (by omega) hl (by rw [hc]; exact hu) (by omega) (by omega) (by rw [hx]; exact hd) ht (by rw [hx]; exact hv)
 rw [hx] at hu2
 exact hloop.trans hu2
theorem iV (pre post : List UInt8) (k : Nat) (c : UInt8) (tot u : Nat) (hl : (pre ++ (part k c ++ post)).length ≤ 100000) (hk : k ≤ 999999999) (hu : fR1 c u) (ht : tot ≤ 2147483648) (hv : k * u ≤ 2147483648) :
  eA.l1 (mkS (pre ++ (part k c ++ post))) (tot : Int) (pre.length : Int) ((pre ++ (part k c ++ post)).length : Int) (pre.length : Int) =
   eA.l1 (mkS (pre ++ (part k c ++ post))) ((tot + k * u : Nat) : Int) ((pre ++ part k c).length : Int) ((pre ++ (part k c ++ post)).length : Int) ((pre ++ part k c).length : Int) := by
 unfold part at *
 by_cases h0 : k = 0
 ·subst h0
  rw [if_pos rfl, eI2, kH2, Nat.zero_mul, pJ2]
 ·rw [if_neg h0] at hl ⊢
  have e : Lib.decDigits k ++ [c] ++ post = Lib.decDigits k ++ c :: post := by simp
  have hp := vQ1 k
  have h9 := (eL k).2 hk
  have hq : (pre ++ (Lib.decDigits k ++ [c])).length = pre.length + (Lib.decDigits k).length + 1 := by simp; omega
  rw [hq]
  rw [e] at hl ⊢
  have := pK1 pre (Lib.decDigits k) post c tot u hl (eV k) (by omega) (by omega) hu ht (by rw [iM]; exact hv)
  rw [iM] at this
  exact this
theorem fE2 (s : List UInt8) (n : Nat) (a : Int) (h1 : 1 ≤ n) (h2 : n ≤ 2147483648) (hs : s = durT n) (hl : s.length ≤ 100000) : eA.l1 (mkS s) (n : Int) a (s.length : Int) (s.length : Int) = some ((n : Int), 0, ()) := by
 rw [eA.l1_eq, pC1 n h1 h2, ← hs]
 simp (disch := omega) only [ss, kE, eA.l5_eq]
theorem yP1 (n : Nat) (h1 : 1 ≤ n) (h2 : n ≤ 2147483648) : eA.f (mkS (durT n)) = some ((n : Int), 0, ()) := by
 have l1 := xG 68 (show n / 86400 ≤ 999999999 by omega)
 have l2 := xG 72 (show n % 86400 / 3600 ≤ 999999999 by omega)
 have l3 := xG 77 (show n % 86400 / 60 % 60 ≤ 999999999 by omega)
 have l4 := xG 83 (show n % 86400 % 60 ≤ 999999999 by omega)
 have l5 := (eL (n / 604800)).2 (by omega)
 have hne : durT n ≠ [] := by
  unfold durT
  split
  ·simp
  ·split <;> simp
 have h80 : (durT n).getD 0 0 = 80 := by
  unfold durT
  split
  ·rfl
  ·split <;> rfl
 obtain ⟨s, hs⟩ : ∃ s, s = durT n := ⟨_, rfl⟩
 have hlen : s.length ≤ 60 := by
  rw [hs]
  unfold durT
  split
  ·simp only [pG2, wG2]; omega
  ·split
   ·simp only [pG2, wG2]; omega
   ·simp only [pG2, wG2]; omega
 rw [← hs] at hne h80 ⊢
 have hp : 0 < s.length := aJ2.2 hne
 have hne' : mkS s ≠ mkS [] := fun e => hne (by have := congrArg B e; exact this)
 have q0 : (⟨#[]⟩ : ByteArray) = mkS [] := rfl
 have hm := uR1 s 0 0 0 hp (by omega) (.inl h80)
 rw [eH2] at hm
 rw [eA.f_eq, q0, kE, dn hne', cond_false, szS, hm]
 have hend := fun a => fE2 s n a h1 h2 hs (by omega)
 by_cases c : n % 604800 = 0
 ·have e : s = [80] ++ (Lib.decDigits (n / 604800) ++ 87 :: []) := by rw [hs]; unfold durT; rw [if_pos c, hH2]
  have hq : n / 604800 * 604800 = n := by omega
  have := pK1 [80] (Lib.decDigits (n / 604800)) [] 87 0 604800 (by rw [← e]; omega) (eV _) (vQ1 _) (by omega) (.inl ⟨rfl, rfl⟩) (by omega) (by rw [iM]; omega)
  rw [← e, iM, hq, sI2] at this
  have hl : ([80] : List UInt8).length + (Lib.decDigits (n / 604800)).length + 1 = s.length := by rw [e]; simp; omega
  rw [hl] at this
  exact this.trans (hend _)
 ·by_cases c2 : n % 86400 = 0
  ·have e : s = [80] ++ (part (n / 86400) 68 ++ []) := by rw [hs]; unfold durT; rw [if_neg c, if_pos c2, kH2]
   have := iV [80] [] (n / 86400) 68 0 86400 (by rw [← e]; omega) (by omega) (.inr (.inl ⟨rfl, rfl⟩)) (by omega) (by omega)
   have hq : 0 + n / 86400 * 86400 = n := by omega
   rw [← e, hq] at this
   have hl : ([80] ++ part (n / 86400) 68).length = s.length := by rw [e, kH2]
   rw [hl] at this
   exact this.trans (hend _)
  ·obtain ⟨a, ha⟩ : ∃ a, a = n / 86400 := ⟨_, rfl⟩
   obtain ⟨b, hb⟩ : ∃ b, b = n % 86400 / 3600 := ⟨_, rfl⟩
   obtain ⟨d, hd⟩ : ∃ d, d = n % 86400 / 60 % 60 := ⟨_, rfl⟩
   obtain ⟨f, hf⟩ : ∃ f, f = n % 86400 % 60 := ⟨_, rfl⟩
   have hn : n = a * 86400 + b * 3600 + d * 60 + f * 1 := by omega
   have e : s = [80] ++ part a 68 ++ ([84] ++ part b 72 ++ part d 77 ++ part f 83) := by rw [hs]; unfold durT; rw [if_neg c, if_neg c2, ha, hb, hd, hf]
   rw [← ha] at l1
   rw [← hb] at l2
   rw [← hd] at l3
   rw [← hf] at l4
   have e1 : s = [80] ++ (part a 68 ++ ([84] ++ part b 72 ++ part d 77 ++ part f 83)) := by rw [e]; simp
   have e2 : s = ([80] ++ part a 68 ++ [84]) ++ (part b 72 ++ (part d 77 ++ part f 83)) := by rw [e]; simp
   have e3 : s = ([80] ++ part a 68 ++ [84] ++ part b 72) ++ (part d 77 ++ part f 83) := by rw [e]; simp
   have e4 : s = ([80] ++ part a 68 ++ [84] ++ part b 72 ++ part d 77) ++ (part f 83 ++ []) := by rw [e]; simp
   have t1 := iV [80] ([84] ++ part b 72 ++ part d 77 ++ part f 83) a 68 0 86400 (by rw [← e1]; omega) (by omega) (.inr (.inl ⟨rfl, rfl⟩)) (by omega) (by omega)
   have t2 := iV ([80] ++ part a 68 ++ [84]) (part d 77 ++ part f 83) b 72 (0 + a * 86400) 3600 (by rw [← e2]; omega) (by omega) (.inr (.inr (.inl ⟨rfl, rfl⟩))) (by omega) (by omega)
   have t3 := iV ([80] ++ part a 68 ++ [84] ++ part b 72) (part f 83) d 77 (0 + a * 86400 + b * 3600) 60 (by rw [← e3]; omega) (by omega) (.inr (.inr (.inr (.inl ⟨rfl, rfl⟩)))) (by omega) (by omega)
   have t4 := iV ([80] ++ part a 68 ++ [84] ++ part b 72 ++ part d 77) [] f 83 (0 + a * 86400 + b * 3600 + d * 60) 1 (by rw [← e4]; omega) (by omega) (.inr (.inr (.inr (.inr ⟨rfl, rfl⟩)))) (by omega) (by omega)
   rw [← e1] at t1
   rw [← e2] at t2
   rw [← e3] at t3
   rw [← e4] at t4
   have hq : 0 + a * 86400 + b * 3600 + d * 60 + f * 1 = n := by omega
   have hl : ([80] ++ part a 68 ++ [84] ++ part b 72 ++ part d 77 ++ part f 83).length = s.length := by rw [e4, kH2]
   rw [hq, hl] at t4
   have hm2 := uR1 s ((0 + a * 86400 : Nat) : Int) (([80] ++ part a 68).length : Int) ([80] ++ part a 68).length (by rw [e]; simp only [pG2, wG2]; omega) (by omega) (.inr (by
    rw [e, rG2, rH2 (zG2 _), Nat.sub_self]
    rfl))
   have hl2 : ([80] ++ part a 68).length + 1 = ([80] ++ part a 68 ++ [84]).length := by simp
   rw [hl2] at hm2
   exact t1.trans (hm2.trans (t2.trans (t3.trans (t4.trans (hend _)))))
theorem hC2 (n : Int) (b : Bool) : eA.l5 n b = some (if b = true then 0 else n, if b = true then 4 else 0, ()) := by
 rw [eA.l5_eq]
 cases b <;> rfl
abbrev Mt : Type := Int × Int × Int × Bool × Rl × List Int × List Int × Unit
def innP (t : Int) : Prop := -62104060800 ≤ t ∧ t < 253370764800
theorem wE2 : fF.f 2 = some (-62104060800, ()) := by
 have h := iH 2 1 1 0 0 0 (-718797) ⟨by decide, by decide⟩ (by omega) (by omega) (by omega)
 rw [show (-718797 : Int) * 86400 + 3600 * 0 + 60 * 0 + 0 = -62104060800 by omega] at h
 rw [fF.f_eq, h]
 rfl
theorem fF2 : fF.f 9999 = some (253370764800, ()) := by
 have h := iH 9999 1 1 0 0 0 2932532 ⟨by decide, by decide⟩ (by omega) (by omega) (by omega)
 rw [show (2932532 : Int) * 86400 + 3600 * 0 + 60 * 0 + 0 = 253370764800 by omega] at h
 rw [fF.f_eq, h]
 rfl
theorem kZ (t : Int) : hE (eJ.f t) (innP t) := by
 unfold innP
 rw [eJ.f_eq, wE2, fF2]
 by_cases c : t ≥ -62104060800
 ·simp (disch := omega) only [ss]
  exact ⟨_, rfl, by rw [decide_eq_true_eq]; omega⟩
 ·simp (disch := omega) only [ss]
  exact ⟨_, rfl, by simp; omega⟩
def okM (l : List Int) (j : Nat) : Prop := innP (l.getD j 0) ∧ adjI l j
def pX (l : List Int) : Prop := (∀ j, j < l.length → okM l j) ∧ l.length ≤ 64
theorem uW1 (l : List Int) (hl : l.length ≤ 1000000) : ∀ (k i : Nat), l.length - i = k → i ≤ l.length →
  hE (aC.l1 l l (l.length : Int) (i : Int)) ((∀ j, i ≤ j → j < l.length → okM l j) ∧ l.length ≤ 64) := by
 intro k
 induction k with
 | zero =>
  intro i hk hil
  rw [aC.l1_eq]
  simp (disch := omega) only [ss]
  refine ⟨_, rfl, ?_⟩
  rw [decide_eq_true_eq]
  exact ⟨fun h => ⟨fun j h1 h2 => by omega, by omega⟩, fun h => by omega⟩
 | succ k ih =>
  intro i hk hil
  have hlt : i < l.length := by omega
  have step : okM l i → hE (aC.l2 l l (l.length : Int) (i : Int) false) ((∀ j, i ≤ j → j < l.length → okM l j) ∧ l.length ≤ 64) := fun h => by
   rw [aC.l2_eq]
   simp (disch := omega) only [ss]
   refine (ih (i + 1) (by omega) (by omega)).iff ⟨fun q => ⟨fun j h1 h2 => ?_, q.2⟩, fun q => ⟨fun j h1 h2 => q.1 j (by omega) h2, q.2⟩⟩
   by_cases e : j = i
   ·subst e; exact h
   ·exact q.1 j (by omega) h2
  have stop : ¬ okM l i → hE (aC.l2 l l (l.length : Int) (i : Int) true) ((∀ j, i ≤ j → j < l.length → okM l j) ∧ l.length ≤ 64) := fun h => by
   rw [aC.l2_eq, cond_true]
   exact ⟨false, rfl, by simp; intro q; exact absurd (q i (zG2 _) hlt) h⟩
  obtain ⟨b, hb, hi⟩ := kZ (l.getD i 0)
  rw [aC.l1_eq]
  simp (disch := omega) only [ss, hb]
  cases b with
  | false => 
   rw [kI2, cond_true]
   exact stop fun q => by have := hi.2 q.1; cases this
  | true =>
   have hin := hi.1 rfl
   rw [dI2, cond_false]
   by_cases h0 : i = 0
   ·simp (disch := omega) only [ss]
    exact step ⟨hin, fun q => by omega⟩
   ·simp (disch := omega) only [ss]
    by_cases c : l.getD i 0 ≤ l.getD (i - 1) 0
    ·rw [dp c]
     exact stop fun q => by have := q.2 (by omega); omega
    ·rw [dn c]
     exact step ⟨hin, fun _ => by omega⟩
theorem aZ (l : List Int) (hl : l.length ≤ 1000000) : hE (aC.f l) (pX l) := by
 have := uW1 l hl _ 0 rfl (aH2 _)
 rw [eH2] at this
 rw [aC.f_eq]
 exact this.iff ⟨fun q => ⟨fun j hj => q.1 j (aH2 _) hj, q.2⟩, fun q => ⟨fun j _ hj => q.1 j hj, q.2⟩⟩
theorem sF1 (s : List UInt8) (hs : s.length ≤ 1000000) : ∃ n b, gB.f (mkS s) = some (n, b, ()) := by
 have key : ∀ (k i : Nat) (v : Int), s.length - i = k → i ≤ s.length → ∃ n b, gB.l1 (mkS s) v (s.length : Int) (i : Int) = some (n, b, ()) := by
  intro k
  induction k with
  | zero =>
   intro i v hk hi
   rw [gB.l1_eq]
   simp (disch := omega) only [ss]
   exact ⟨_, _, rfl⟩
  | succ k ih =>
   intro i v hk hi
   have hlt : i < s.length := by omega
   have hbt : bt (mkS s) (i : Int) = ((s.getD i 0).toNat : Int) := uM (mkS s) i
   rw [gB.l1_eq]
   by_cases c1 : ((s.getD i 0).toNat : Int) < 48
   ·simp (disch := omega) only [ss, szS, hbt, gB.l2_eq]
    exact ⟨_, _, rfl⟩
   ·by_cases c2 : ((s.getD i 0).toNat : Int) > 57
    ·simp (disch := omega) only [ss, szS, hbt, gB.l2_eq]
     exact ⟨_, _, rfl⟩
    ·simp (disch := omega) only [ss, szS, hbt, gB.l2_eq]
     exact ih (i + 1) _ (by omega) (by omega)
 have := key _ 0 0 rfl (aH2 _)
 rw [eH2] at this
 rw [gB.f_eq, szS]
 exact this
theorem hE2 (n : Int) (h : ¬ (1 ≤ n ∧ n ≤ 2147483648)) : tC.f n = some (mkS [], 1, ()) := by
 rw [tC.f_eq]
 by_cases c : n < 1
 ·rw [dp c, cond_true, tC.l1_eq]
  rfl
 ·rw [dn c, cond_false, dp (by omega), tC.l1_eq]
  rfl
def durR (s : List UInt8) (r : Option (Int × Int × Unit)) : Prop := ∃ n e, r = some (n, e, ()) ∧ (e = 0 → ∃ m : Nat, n = (m : Int) ∧ 1 ≤ m ∧ m ≤ 2147483648 ∧ s = durT m)
theorem cA2 (s : List UInt8) (hs : s.length ≤ 100000) : ∀ (k i a : Nat) (tot : Int), s.length - i = k → a ≤ i → i ≤ s.length → durR s (eA.l1 (mkS s) tot (a : Int) (s.length : Int) (i : Int)) := by
 intro k
 induction k with
 | zero =>
  intro i a tot hk ha hi
  have e : i = s.length := by omega
  subst e
  rw [eA.l1_eq]
  by_cases c : 1 ≤ tot ∧ tot ≤ 2147483648
  ·obtain ⟨m, rfl⟩ := zH2 (show 0 ≤ tot by omega)
   rw [pC1 m (by omega) (by omega)]
   simp (disch := omega) only [ss, kE, hC2]
   by_cases q : mkS (durT m) = mkS s
   ·rw [dp q]
    exact ⟨_, _, rfl, fun _ => ⟨m, rfl, by omega, by omega, (congrArg B q).symm⟩⟩
   ·rw [dn q]
    exact ⟨_, _, rfl, fun h => by simp at h⟩
  ·rw [hE2 tot c]
   simp (disch := omega) only [ss, hC2]
   exact ⟨_, _, rfl, fun h => by simp at h⟩
 | succ k ih =>
  intro i a tot hk ha hi
  have hlt : i < s.length := by omega
  have hbt : bt (mkS s) (i : Int) = ((s.getD i 0).toNat : Int) := uM (mkS s) i
  have h3 : ∀ unit : Int, durR s (eA.l3 (mkS s) tot (a : Int) (i : Int) unit (s.length : Int) (i : Int)) := by
   intro unit
   have hx : (mkS s).extract a i = mkS ((s.drop a).take (i - a)) := ex_S s a i
   obtain ⟨n, b, hn⟩ := sF1 ((s.drop a).take (i - a)) (by rw [cH2, lH2]; omega)
   have stop : durR s (some (0, 4, ())) := ⟨_, _, rfl, fun h => by omega⟩
   have go : ∀ x, durR s (eA.l4 (mkS s) tot (i : Int) unit n (s.length : Int) (i : Int) x) := by
    intro x
    rw [eA.l4_eq]
    cases x with
    | true => exact stop
    | false =>
     simp (disch := omega) only [ss]
     exact ih (i + 1) (i + 1) _ (by omega) (by omega) (by omega)
   rw [eA.l3_eq]
   simp (disch := omega) only [ss, szS, hx, hn]
   cases b with
   | false => exact go true
   | true =>
    rw [dI2, cond_false]
    by_cases c : ((i : Int) - (a : Int)) < 1
    ·rw [dp c]; exact go true
    ·rw [dn c]; exact go _
  have h2 : ∀ x, durR s (eA.l2 (mkS s) tot (a : Int) (i : Int) (s.length : Int) (i : Int) x) := by
   intro x
   rw [eA.l2_eq]
   cases x with
   | true =>
    simp (disch := omega) only [ss]
    exact ih (i + 1) (i + 1) _ (by omega) (by omega) (by omega)
   | false =>
    simp (disch := omega) only [ss]
    exact ih (i + 1) a _ (by omega) (by omega) (by omega)
  have two : ∀ (p : Prop) [Decidable p] {x y : Option (Int × Int × Unit)}, durR s x → durR s y → durR s (bif decide p then x else y) := by
   intro p _ x y hx hy
   by_cases c : p
   ·rw [dp c]; exact hx
   ·rw [dn c]; exact hy
  rw [eA.l1_eq]
  simp (disch := omega) only [ss, szS, hbt]
  exact two _ (h3 _) (two _ (h3 _) (two _ (h3 _) (two _ (h3 _) (two _ (h3 _) (two _ (h2 _) (h2 _))))))
theorem qV1 (s : List UInt8) (hs : s.length ≤ 100000) : durR s (eA.f (mkS s)) := by
 have q0 : (⟨#[]⟩ : ByteArray) = mkS [] := rfl
 rw [eA.f_eq, q0, kE, szS]
 by_cases c : mkS s = mkS []
 ·rw [dp c]
  exact ⟨_, _, rfl, fun h => by omega⟩
 ·rw [dn c]
  have := cA2 s hs _ 0 0 0 rfl (zG2 _) (aH2 _)
  rw [eH2] at this
  exact this
theorem iY1 (l : List Int) (hl : l.length ≤ 64) (hr : ∀ j, j < l.length → adjI l j) (hu : ∀ t ∈ l, -62135596800 ≤ t ∧ t ≤ 253402300799) :
  ∀ (k i : Nat), l.length - i = k → i ≤ l.length → uA.l1 ((l.map utx).map mkS) (l.length : Int) (i : Int) (l.take i) = some (l, true, ()) := by
 have hlim : vC = 17179869184 := rfl
 intro k
 induction k with
 | zero =>
  intro i hk hi
  have e : i = l.length := by omega
  subst e
  rw [uA.l1_eq, wJ2]
  simp (disch := omega) only [ss]
 | succ k ih =>
  intro i hk hi
  have hlt : i < l.length := by omega
  have hp := (dI (l.getD i 0) (hu _ (iD 0 hlt))).2.2
  have hg : ((l.map utx).map mkS).getD i ByteArray.empty = mkS (utx (l.getD i 0)) := by
   rw [rG2, hI2, hI2, rG2, bH2 hlt]
   rfl
  have hll : ((l.map utx).map mkS).length = l.length := by simp
  have htl : (l.take i).length = i := by rw [cH2]; omega
  have := ih (i + 1) (by omega) (by omega)
  rw [tE 0 hlt] at this
  rw [uA.l1_eq]
  simp (disch := omega) only [ss, hll, hg, hp, htl]
  by_cases c : i = 0
  ·simp (disch := omega) only [ss, uA.l2_eq, uA.l3_eq, htl, wG2, hlim]
   exact this
  ·have ha := hr i hlt (by omega)
   have ht : (l.take i).getD (i - 1) 0 = l.getD (i - 1) 0 := by
    rw [rG2, List.getElem?_take_of_lt (by omega), ← rG2]
   simp (disch := omega) only [ss, uA.l2_eq, uA.l3_eq, htl, ht, wG2, hlim]
   exact this
theorem vC1 (l : List Int) (hne : l ≠ []) (hl : l.length ≤ 64) (hr : ∀ j, j < l.length → adjI l j) (hu : ∀ t ∈ l, -62135596800 ≤ t ∧ t ≤ 253402300799) :
  uA.f (mkS (jn 44 (l.map utx))) = some (l, true, ()) := by
 have hno : ∀ s ∈ l.map utx, (44 : UInt8) ∉ s := by
  intro s hs q
  obtain ⟨t, ht, rfl⟩ := gH2.1 hs
  rcases (xW t (hu t ht)).2.1 _ q with e | e
  ·exact absurd e (by decide)
  ·exact absurd e (by unfold dig; decide)
 have hlen : (jn 44 (l.map utx)).length ≤ 2000 := by
  have h1 := zQ1 44 (l.map utx)
  have h2 := lZ 15 (l.map utx) fun s hs => by
   obtain ⟨t, ht, rfl⟩ := gH2.1 hs
   exact (dI t (hu t ht)).1
  rw [yG2] at h1 h2
  omega
 have hS : yC.f (mkS (jn 44 (l.map utx))) ⟨#[44]⟩ = some ((segs 44 (jn 44 (l.map utx))).map mkS, ()) := lJ (c := 44) _ (by omega)
 have hsg := kV 44 (l.map utx) (by simpa using hne) hno
 have := iY1 l hl hr hu _ 0 rfl (aH2 _)
 rw [eH2, List.take_zero] at this
 rw [uA.f_eq, hS, hsg, qG2, yG2, yG2]
 exact this
theorem mB2 (X : List (List UInt8)) (hX : X.length ≤ 100000) (hs : ∀ s ∈ X, s.length ≤ 1000000) : ∀ (k i : Nat) (y : List Int), X.length - i = k → i ≤ X.length → y.length = i → ∃ l b, uA.l1 (X.map mkS) (X.length : Int) (i : Int) y = some (l, b, ()) ∧ l.length ≤ X.length := by
 have hlim : vC = 17179869184 := rfl
 intro k
 induction k with
 | zero =>
  intro i y hk hi hy
  rw [uA.l1_eq]
  simp (disch := omega) only [ss]
  exact ⟨_, _, rfl, by omega⟩
 | succ k ih =>
  intro i y hk hi hy
  have hlt : i < X.length := by omega
  have hg : (X.map mkS).getD i ByteArray.empty = mkS (X.getD i []) := by
   rw [rG2, hI2, rG2, bH2 hlt]
   rfl
  obtain ⟨t, e, h1, _⟩ := tQ (X.getD i []) (hs _ (iD [] hlt))
  have hm : (X.map mkS).length = X.length := yG2 ..
  have go : ∀ b, ∃ l c, uA.l2 t (X.map mkS) (X.length : Int) (i : Int) b y = some (l, c, ()) ∧ l.length ≤ X.length := by
   intro b
   rw [uA.l2_eq]
   cases b with
   | true => exact ⟨_, _, rfl, aH2 _⟩
   | false =>
    simp (disch := omega) only [ss, uA.l3_eq, hy, wG2, hlim]
    exact ih (i + 1) _ (by omega) (by omega) (by rw [pG2, hy]; rfl)
  rw [uA.l1_eq]
  simp (disch := omega) only [ss, hm, hg, h1]
  by_cases c1 : e = 0
  ·simp (disch := omega) only [ss]
   by_cases c2 : (i : Int) ≥ 64
   ·rw [dp c2]; exact go true
   ·rw [dn c2]
    by_cases c3 : (i : Int) > 0
    ·simp (disch := omega) only [ss, hy]
     exact go _
    ·simp (disch := omega) only [ss]
     exact go _
  ·rw [dn c1]; exact go true
theorem gO1 (s : List UInt8) (hs : s.length ≤ 50000) : ∃ l b, uA.f (mkS s) = some (l, b, ()) ∧ l.length ≤ 50001 := by
 have hS : yC.f (mkS s) ⟨#[44]⟩ = some ((segs 44 s).map mkS, ()) := lJ (c := 44) _ (by omega)
 have hsl := jN 44 s
 obtain ⟨l, b, h1, h2⟩ := mB2 (segs 44 s) (by omega) (fun t ht => by have := hsl.2 t ht; omega) _ 0 [] rfl (aH2 _) rfl
 rw [eH2] at h1
 rw [uA.f_eq, hS, qG2, yG2]
 exact ⟨l, b, h1, by omega⟩
theorem eJ1 (l : List Int) (h : l.length ≤ 64) (hu : ∀ t ∈ l, -62135596800 ≤ t ∧ t ≤ 253402300799) : eF.f l = some (mkS (jn 44 (l.map utx)), ()) := by
 have hlim : vC = 17179869184 := rfl
 have hlen : (jn 44 (l.map utx)).length ≤ 2000 := by
  have h1 := zQ1 44 (l.map utx)
  have h2 := lZ 15 (l.map utx) fun s hs => by
   obtain ⟨t, ht, rfl⟩ := gH2.1 hs
   exact (dI t (hu t ht)).1
  rw [yG2] at h1 h2
  omega
 have hJ := bS1 (l.map utx) (by rw [yG2]; omega) (by omega)
 have key : ∀ (k i : Nat), l.length - i = k → i ≤ l.length → eF.l1 l (l.length : Int) (i : Int) (((l.take i).map utx).map mkS) = some (mkS (jn 44 (l.map utx)), ()) := by
  intro k
  induction k with
  | zero =>
   intro i hk hil
   have e : i = l.length := by omega
   subst e
   rw [eF.l1_eq, wJ2, hJ]
   simp (disch := omega) only [ss]
  | succ k ih =>
   intro i hk hil
   have hlt : i < l.length := by omega
   have hI := (dI _ (hu _ (iD 0 hlt))).2.1
   have := ih (i + 1) (by omega) (by omega)
   rw [tE 0 hlt, fH2, fH2] at this
   have hl1 : (((l.take i).map utx).map mkS).length = i := by simp; omega
   rw [eF.l1_eq]
   simp (disch := omega) only [ss, hI, hl1, wG2, hlim]
   exact this
 have := key _ 0 rfl (aH2 _)
 rw [eH2] at this
 rw [eF.f_eq]
 exact this
def mayM (m : Mt) : Prop := 0 ≤ m.1 ∧ m.1 < 16 ∧ innP m.2.1 ∧ 1 ≤ m.2.2.1 ∧ m.2.2.1 ≤ 2678400 ∧ pX m.2.2.2.2.2.1 ∧ pX m.2.2.2.2.2.2.1 ∧
 (m.2.2.2.1 = true → pA.f m.2.2.2.2.1 = some (true, ())) ∧ (m.2.2.2.1 = false → m.2.2.2.2.1 = zR)
def wG (m : Mt) : Prop := jL m.2.2.2.2.1 ∧ m.2.2.2.2.2.1.length ≤ 1000000 ∧ m.2.2.2.2.2.2.1.length ≤ 1000000
theorem bB2 (m : Mt) : ∃ b, cE.f m = some (b, ()) ∧ (b = true → wG m) := by
 obtain ⟨b, h1, h2⟩ := sU1 m.2.2.2.2.1
 rw [cE.f_eq, h1]
 cases b with
 | false => exact ⟨false, rfl, fun h => by cases h⟩
 | true =>
  simp (disch := omega) only [ss]
  by_cases c : (m.2.2.2.2.2.1.length : Int) ≤ 400
  ·rw [dp c]
   refine ⟨_, rfl, fun h => ⟨h2 rfl, by omega, ?_⟩⟩
   rw [decide_eq_true_eq] at h
   omega
  ·rw [dn c]
   exact ⟨_, rfl, fun h => by cases h⟩
theorem wF1 (m : Mt) (h : wG m) : hE (wC.f m) (mayM m) := by
 obtain ⟨z, st, du, rc, r, da, ex, ⟨⟩⟩ := m
 obtain ⟨h1, h2, h3⟩ := h
 dsimp only at h1 h2 h3
 have stop : ¬ mayM (z, st, du, rc, r, da, ex, ()) → hE (wC.l1 true (z, st, du, rc, r, da, ex, ())) (mayM (z, st, du, rc, r, da, ex, ())) := fun q => by
  rw [wC.l1_eq, cond_true]
  exact ⟨false, rfl, by simp [q]⟩
 obtain ⟨b1, g1, k1⟩ := kZ st
 obtain ⟨b2, g2, k2⟩ := aZ da h2
 obtain ⟨b3, g3, k3⟩ := aZ ex h3
 unfold mayM at stop ⊢
 dsimp only at stop ⊢
 rw [wC.f_eq]
 dsimp only
 by_cases c1 : z < 0
 ·rw [dp c1]; exact stop fun q => by omega
 rw [dn c1, cond_false]
 by_cases c2 : z ≥ 16
 ·rw [dp c2]; exact stop fun q => by omega
 rw [dn c2, cond_false, g1]
 cases b1 with
 | false => exact stop fun q => by have := k1.2 q.2.2.1; cases this
 | true =>
 simp (disch := omega) only [ss]
 by_cases c3 : du < 1
 ·rw [dp c3]; exact stop fun q => by omega
 rw [dn c3, cond_false]
 by_cases c4 : du > 2678400
 ·rw [dp c4]; exact stop fun q => by omega
 rw [dn c4, cond_false, g2]
 cases b2 with
 | false => exact stop fun q => by have := k2.2 q.2.2.2.2.2.1; cases this
 | true =>
 simp (disch := omega) only [ss, g3]
 cases b3 with
 | false => exact stop fun q => by have := k3.2 q.2.2.2.2.2.2.1; cases this
 | true =>
 rw [dI2, wC.l1_eq, cond_false]
 dsimp only
 have base : 0 ≤ z ∧ z < 16 ∧ innP st ∧ 1 ≤ du ∧ du ≤ 2678400 ∧ pX da ∧ pX ex := ⟨by omega, by omega, k1.1 rfl, by omega, by omega, k2.1 rfl, k3.1 rfl⟩
 obtain ⟨i1, i2, i3, i4, i5, i6, i7⟩ := base
 cases rc with
 | true =>
  obtain ⟨b, hb⟩ := uJ1 r h1
  rw [cond_true, hb]
  refine ⟨b, rfl, fun e => ⟨i1, i2, i3, i4, i5, i6, i7, (fun _ => by rw [← e]), (fun e => by cases e)⟩, fun q => ?_⟩
  have := q.2.2.2.2.2.2.2.1 rfl
  exact congrArg Prod.fst (nH2 this)
 | false =>
  obtain ⟨b, hb, hq⟩ := gZ r zR h1
  have hb : cD.f r (0, 0, 0, 0, 0, false, [], [], [], [], [], [], [], [], [], ()) = some (b, ()) := hb
  rw [cond_false, hb]
  exact ⟨b, rfl, fun e => ⟨i1, i2, i3, i4, i5, i6, i7, (fun e => by cases e), fun _ => hq.1 e⟩, fun q => hq.2 (q.2.2.2.2.2.2.2.2 rfl)⟩
def F0 : List UInt8 := [68, 84, 83, 84, 65, 82, 84, 59, 84, 90, 73, 68, 61]
def F1 : List UInt8 := [68, 85, 82, 65, 84, 73, 79, 78, 58]
def F2 : List UInt8 := [82, 82, 85, 76, 69, 58]
def F3 : List UInt8 := [82, 68, 65, 84, 69, 58]
def F4 : List UInt8 := [69, 88, 68, 65, 84, 69, 58]
theorem fr0 : rC.f 0 = some (mkS F0, ()) := by rw [rC.f_eq]; rfl
theorem fr1 : rC.f 1 = some (mkS F1, ()) := by rw [rC.f_eq]; rfl
theorem fr2 : rC.f 2 = some (mkS F2, ()) := by rw [rC.f_eq]; rfl
theorem fr3 : rC.f 3 = some (mkS F3, ()) := by rw [rC.f_eq]; rfl
theorem fr4 : rC.f 4 = some (mkS F4, ()) := by rw [rC.f_eq]; rfl
noncomputable def v0 (m : Mt) : List UInt8 := Lib.decDigits m.1.toNat ++ 58 :: utx m.2.1
noncomputable def optL (b : Bool) (l : List UInt8) : List (List UInt8) := bif b then [l] else []
noncomputable def vE (m : Mt) : List (List UInt8) :=
 [F0 ++ v0 m, F1 ++ durT m.2.2.1.toNat] ++ optL m.2.2.2.1 (F2 ++ jn 59 (pts m.2.2.2.2.1)) ++ optL (decide (0 < m.2.2.2.2.2.1.length)) (F3 ++ jn 44 (m.2.2.2.2.2.1.map utx)) ++ optL (decide (0 < m.2.2.2.2.2.2.1.length)) (F4 ++ jn 44 (m.2.2.2.2.2.2.1.map utx))
theorem jK {l : List Int} (h : pX l) : l.length ≤ 64 ∧ (∀ j, j < l.length → adjI l j) ∧ ∀ t ∈ l, innP t := by
 refine ⟨h.2, fun j hj => (h.1 j hj).2, fun t ht => ?_⟩
 obtain ⟨j, hj, rfl⟩ := oJ2 ht
 have := (h.1 j hj).1
 rwa [rG2, bH2 hj] at this
theorem zH {t : Int} (h : innP t) : -62135596800 ≤ t ∧ t ≤ 253402300799 := by unfold innP at h; omega
theorem sR1 (n : Nat) (h : n ≤ 2147483648) : (durT n).length ≤ 60 := by
 have l1 := xG 68 (show n / 86400 ≤ 999999999 by omega)
 have l2 := xG 72 (show n % 86400 / 3600 ≤ 999999999 by omega)
 have l3 := xG 77 (show n % 86400 / 60 % 60 ≤ 999999999 by omega)
 have l4 := xG 83 (show n % 86400 % 60 ≤ 999999999 by omega)
 have l5 := (eL (n / 604800)).2 (by omega)
 unfold durT
 split
 ·simp only [pG2, wG2]; omega
 ·split
  ·simp only [pG2, wG2]; omega
  ·simp only [pG2, wG2]; omega
theorem nT (l : List Int) (h : l.length ≤ 64) (hu : ∀ t ∈ l, -62135596800 ≤ t ∧ t ≤ 253402300799) : (jn 44 (l.map utx)).length ≤ 1100 := by
 have h1 := zQ1 44 (l.map utx)
 have h2 := lZ 15 (l.map utx) fun s hs => by
  obtain ⟨t, ht, rfl⟩ := gH2.1 hs
  exact (dI t (hu t ht)).1
 rw [yG2] at h1 h2
 omega
theorem lZ1 (m : Mt) (hs : wG m) (hM : mayM m) : yB.f m = (kB.f ((vE m).map mkS)).bind fun t => some t := by
 obtain ⟨b, hb, hb2⟩ := wF1 m hs
 have hb1 : b = true := hb2.2 hM
 subst hb1
 obtain ⟨z, st, du, rc, r, da, ex, ⟨⟩⟩ := m
 obtain ⟨s1, s2, s3⟩ := hs
 obtain ⟨m1, m2, m3, m4, m5, m6, m7, m8, m9⟩ := hM
 dsimp only at s1 s2 s3 m1 m2 m3 m4 m5 m6 m7 m8 m9
 have hlim : vC = 17179869184 := rfl
 obtain ⟨d1, d2, d3⟩ := jK m6
 obtain ⟨e1, e2, e3⟩ := jK m7
 obtain ⟨n, rfl⟩ := zH2 (show 0 ≤ du by omega)
 obtain ⟨zn, rfl⟩ := zH2 m1
 have u0 := dI st (zH m3)
 have hda := eJ1 da d1 fun t ht => zH (d3 t ht)
 have hex := eJ1 ex e1 fun t ht => zH (e3 t ht)
 have lda := nT da d1 fun t ht => zH (d3 t ht)
 have lex := nT ex e1 fun t ht => zH (e3 t ht)
 have hdt := pC1 n (by omega) (by omega)
 have ldt := sR1 n (by omega)
 have hI := eK1 zn (by omega)
 have lD := (eL zn).2 (by omega)
 have q58 : (⟨#[58]⟩ : ByteArray) = mkS [58] := rfl
 have lF0 : F0.length = 13 := rfl
 have lF1 : F1.length = 9 := rfl
 have lF2 : F2.length = 6 := rfl
 have lF3 : F3.length = 6 := rfl
 have lF4 : F4.length = 7 := rfl
 have k3 : ∀ L : List (List UInt8), yB.l3 (L.map mkS) = (kB.f (L.map mkS)).bind fun t => some t := fun L => by rw [yB.l3_eq]
 have k2 : ∀ L : List (List UInt8), L.length ≤ 10 → yB.l2 ((zn : Int), st, (n : Int), rc, r, da, ex, ()) (L.map mkS) = (kB.f ((L ++ optL (decide (0 < ex.length)) (F4 ++ jn 44 (ex.map utx))).map mkS)).bind fun t => some t := by
  intro L hL
  have hml : (L.map mkS).length = L.length := yG2 ..
  rw [yB.l2_eq]
  dsimp only
  by_cases c : (ex.length : Int) > 0
  ·have ho : optL (decide (0 < ex.length)) (F4 ++ jn 44 (ex.map utx)) = [F4 ++ jn 44 (ex.map utx)] := by rw [dp (by omega)]; rfl
   have := k3 (L ++ [F4 ++ jn 44 (ex.map utx)])
   rw [fH2] at this
   rw [ho, fH2]
   simp (disch := omega) only [ss, fr4, hex, szS, lF4, sH, hml, wG2, hlim]
   exact this
  ·have ho : optL (decide (0 < ex.length)) (F4 ++ jn 44 (ex.map utx)) = [] := by rw [dn (by omega)]; rfl
   rw [ho, kH2, dn c, cond_false]
   exact k3 L
 have k1 : ∀ L : List (List UInt8), L.length ≤ 9 → yB.l1 ((zn : Int), st, (n : Int), rc, r, da, ex, ()) (L.map mkS) = (kB.f ((L ++ optL (decide (0 < da.length)) (F3 ++ jn 44 (da.map utx)) ++ optL (decide (0 < ex.length)) (F4 ++ jn 44 (ex.map utx))).map mkS)).bind fun t => some t := by
  intro L hL
  have hml : (L.map mkS).length = L.length := yG2 ..
  rw [yB.l1_eq]
  dsimp only
  by_cases c : (da.length : Int) > 0
  ·have ho : optL (decide (0 < da.length)) (F3 ++ jn 44 (da.map utx)) = [F3 ++ jn 44 (da.map utx)] := by rw [dp (by omega)]; rfl
   have := k2 (L ++ [F3 ++ jn 44 (da.map utx)]) (by rw [pG2, wG2]; omega)
   rw [fH2] at this
   rw [ho]
   simp (disch := omega) only [ss, fr3, hda, szS, lF3, sH, hml, wG2, hlim]
   exact this
  ·have ho : optL (decide (0 < da.length)) (F3 ++ jn 44 (da.map utx)) = [] := by rw [dn (by omega)]; rfl
   rw [ho, kH2, dn c, cond_false]
   exact k2 L (by omega)
 have hv : F0 ++ Lib.decDigits zn ++ [58] ++ utx st = F0 ++ v0 ((zn : Int), st, (n : Int), rc, r, da, ex, ()) := by unfold v0; simp
 have hu0 := u0.1
 rw [yB.f_eq, hb]
 dsimp only
 cases rc with
 | true =>
  obtain ⟨p1, p2⟩ := iF1 r s1 (m8 rfl)
  have := k1 [F0 ++ v0 ((zn : Int), st, (n : Int), true, r, da, ex, ()), F1 ++ durT n, F2 ++ jn 59 (pts r)] (by simp)
  simp (disch := omega) only [ss, u0.2.1, hdt, fr0, fr1, fr2, hI, p1, q58, szS, sH, pG2, lF0, lF1, lF2, wG2, vG2, aI2, hlim, hv]
  exact this
 | false =>
  have := k1 [F0 ++ v0 ((zn : Int), st, (n : Int), false, r, da, ex, ()), F1 ++ durT n] (by simp)
  simp (disch := omega) only [ss, u0.2.1, hdt, fr0, fr1, hI, q58, szS, sH, pG2, lF0, lF1, wG2, hv]
  exact this
theorem aM1 (z : Nat) (t : Int) (hz : z ≤ 15) (ht : -62135596800 ≤ t ∧ t ≤ 253402300799) : eE.f (mkS (Lib.decDigits z ++ 58 :: utx t)) = some ((z : Int), t, true, ()) := by
 have hD := (eL z).2 (by omega)
 have hno : (58 : UInt8) ∉ Lib.decDigits z := fun q => absurd (eV z _ q) (by unfold dig; decide)
 have hu := dI t ht
 have hC : kD.f (mkS (Lib.decDigits z ++ 58 :: utx t)) ⟨#[58]⟩ = some (mkS (Lib.decDigits z), mkS (utx t), true, ()) := qT (c := 58) (by omega) hno
 have hi : Lib.itoa (z : Int) = Lib.decDigits z := by rw [yE (by omega), tI2]
 have hA : sF.f (mkS (Lib.decDigits z)) = some ((z : Int), true, ()) := by
  have hr : xJ (mkS (Lib.decDigits z)) = ((z : Int), true) := by
   rw [← hi]
   unfold xJ
   rw [show (mkS (Lib.itoa (z : Int))).data.toList = Lib.itoa (z : Int) from rfl, oX (by omega) (by omega)]
  rw [bB1 _ (by omega), hr]
 have hI := eK1 z (by omega)
 have hT := gR (Lib.decDigits z) (by omega)
 have hh : ¬ (Lib.decDigits z).head? = some 45 := by
  intro q
  cases hDD : Lib.decDigits z with
  | nil => exact D_ne _ hDD
  | cons c r =>
   rw [hDD] at q
   simp at q
   have := (rY hDD).2
   rw [q] at this
   exact this rfl
 rw [if_neg hh] at hT
 rw [eE.f_eq, hC]
 simp (disch := omega) only [ss, hA, hI, hu.2.2, hT, kE, szS]
theorem hM1 (s : List UInt8) (hs : s.length ≤ 1000000) : ∃ n t b, eE.f (mkS s) = some (n, t, b, ()) := by
 rw [eE.f_eq]
 have fin : ∀ (a b : List UInt8) (q : Bool), a.length ≤ 1000000 → b.length ≤ 1000000 → kD.f (mkS s) ⟨#[58]⟩ = some (mkS a, mkS b, q, ()) → ∃ n t b, ((kD.f (mkS s) ⟨#[58]⟩).bind fun t1 => (sF.f t1.1).bind fun t2 => (bB.f t1.2.1).bind fun t3 => bif t1.2.2.1 then (bif t2.2.1 then ((sC.f t2.1).bind fun t4 => bif (t4.1.toList == t1.1.toList) then ((wD.f t1.1 ⟨#[45]⟩).bind fun t5 => bif decide ((t5.1.size : Int) ≤ 9) then (some (t2.1, t3.1, decide (t3.2.1 = 0), ())) else (some (t2.1, t3.1, false, ()))) else (some (t2.1, t3.1, false, ()))) else (some (t2.1, t3.1, false, ()))) else (some (t2.1, t3.1, false, ()))) = some (n, t, b, ()) := by
  intro a b q ha hb hC
  have hr := bJ1 (mkS a)
  have hA := bB1 a ha
  have hI := cK _ hr.1 hr.2
  have hT := gR a ha
  obtain ⟨t, e, hp, _⟩ := tQ b hb
  rw [hC]
  simp only [qG2, hA, hp]
  cases q with
  | false => exact ⟨_, _, _, rfl⟩
  | true =>
   rw [cond_true]
   cases (xJ (mkS a)).2 with
   | false => exact ⟨_, _, _, rfl⟩
   | true =>
    rw [cond_true, hI]
    simp only [qG2]
    cases ((mkS (Lib.itoa (xJ (mkS a)).1)).toList == (mkS a).toList) with
    | false => exact ⟨_, _, _, rfl⟩
    | true =>
     rw [cond_true, hT]
     simp only [qG2]
     by_cases c : (((mkS (if a.head? = some 45 then a.tail else a)).size : Nat) : Int) ≤ 9
     ·rw [dp c]; exact ⟨_, _, _, rfl⟩
     ·rw [dn c]; exact ⟨_, _, _, rfl⟩
 rcases oK (c := 58) (l := s) with h | ⟨a, b, rfl, ha⟩
 ·exact fin s [] false hs (aH2 _) (nB1 (s := mkS s) (c := 58) h)
 ·have hl : (a ++ 58 :: b).length = a.length + b.length + 1 := by simp; omega
  exact fin a b true (by omega) (by omega) (qT (c := 58) (by omega) ha)
def Fr : Nat → List UInt8
 | 0 => F0
 | 1 => F1
 | 2 => F2
 | 3 => F3
 | _ => F4
theorem fr_k (k : Nat) (hk : k < 5) : rC.f (k : Int) = some (mkS (Fr k), ()) := by
 have : k = 0 ∨ k = 1 ∨ k = 2 ∨ k = 3 ∨ k = 4 := by omega
 rcases this with rfl | rfl | rfl | rfl | rfl
 ·exact fr0
 ·exact fr1
 ·exact fr2
 ·exact fr3
 ·exact fr4
def pf (F s : List UInt8) : Bool := decide (s.take F.length = F)
theorem sM (s F : List UInt8) : uC.f (mkS s) (mkS F) = some (pf F s, ()) := by
 unfold pf
 rw [uC.f_eq, oC.f_eq, szS, szS]
 by_cases c : (s.length : Int) ≥ (F.length : Int)
 ·have e : (mkS s).extract 0 F.length = mkS (s.take F.length) := nI (by rw [dQ, B_mk, B_mk])
  have hd : (mkS (s.take F.length) = mkS F) ↔ s.take F.length = F := ⟨fun h => congrArg B h, fun h => by rw [h]⟩
  simp (disch := omega) only [ss, kE, e]
  rw [decide_eq_decide.2 hd]
 ·rw [dn c, cond_false, dn (fun h => c (by have := congrArg List.length h; rw [cH2] at this; omega))]
  rfl
theorem oV (k : Nat) (v : List UInt8) : pf (Fr k) (Fr k ++ v) = true := by unfold pf; rw [vI2]; exact dp rfl
theorem nF2 (j k : Nat) (hj : j < 5) (hk : k < 5) (h : j ≠ k) (v : List UInt8) : pf (Fr j) (Fr k ++ v) = false := by
 have a : j = 0 ∨ j = 1 ∨ j = 2 ∨ j = 3 ∨ j = 4 := by omega
 have b : k = 0 ∨ k = 1 ∨ k = 2 ∨ k = 3 ∨ k = 4 := by omega
 unfold pf
 refine dn fun e => ?_
 have e2 := congrArg (List.take 2) e
 rcases a with rfl | rfl | rfl | rfl | rfl <;> rcases b with rfl | rfl | rfl | rfl | rfl <;> first | exact h rfl | (simp [Fr, F0, F1, F2, F3, F4] at e2)
abbrev zM : Mt := (0, 0, 0, false, zR, [], [], ())
abbrev Rs : Type := Option (Mt × Int × Int × Unit)
def bad9 (i : Int) : Rs := some (zM, i, 4, ())
noncomputable def QA (X : List ByteArray) (nx i : Int) (y : Mt) : Rs := gA.l1a X nx X (X.length : Int) i 0 0 0 false 0 0 0 0 0 false y
noncomputable def QB (X : List ByteArray) (s : ByteArray) (nx i : Int) (y : Mt) : Rs := gA.l2a X i s nx X (X.length : Int) i 0 0 0 false 0 0 0 0 0 false y
noncomputable def QC (X : List ByteArray) (nx i : Int) (b : Bool) (y : Mt) : Rs := bif b then bad9 i else QA X (nx + 1) (i + 1) y
theorem zC2 (X : List ByteArray) (nx i : Nat) (b : Bool) (y : Mt) (h : nx < 10) (h2 : i < 1000000) : gA.l5a X (i : Int) (nx : Int) X (X.length : Int) (i : Int) b 0 0 0 false 0 0 0 0 0 false y = QC X nx i b y := by
 rw [gA.l5a_eq]
 unfold QC QA bad9
 cases b with
 | true => rfl
 | false => simp (disch := omega) only [ss]
theorem hJ1 (X : List ByteArray) (s : List UInt8) (k i : Nat) (y : Mt) (hk : k < 5) (hi : i < 1000000) (hp : pf (Fr k) s = true) :
  QB X (mkS s) k i y = (xC.f y (k : Int) (mkS (s.drop (Fr k).length))).bind fun t => QC X k i (!t.1) t.2.1 := by
 have hl : (Fr k).length ≤ s.length := by
  unfold pf at hp
  have := congrArg List.length (of_decide_eq_true hp)
  rw [cH2] at this
  omega
 have hx : (mkS s).extract (Fr k).length s.length = mkS (s.drop (Fr k).length) := nI (by rw [← szS s, dM, B_mk, B_mk])
 unfold QB
 rw [gA.l2a_eq]
 simp (disch := omega) only [ss, fr_k k hk, sM, hp, gA.l3a_eq]
 rw [gA.l4a_eq]
 simp (disch := omega) only [ss, fr_k k hk, sM, hp, szS, hx]
 congr 1
 funext t
 exact zC2 X k i _ _ (by omega) hi
theorem lC2 (X : List ByteArray) (s : List UInt8) (k i : Nat) (y : Mt) (hk : k < 5) (h2 : 2 ≤ k) (hp : pf (Fr k) s = false) : QB X (mkS s) k i y = QB X (mkS s) ((k + 1 : Nat) : Int) i y := by
 unfold QB
 conv => lhs; rw [gA.l2a_eq]
 simp (disch := omega) only [ss, fr_k k hk, sM, hp, gA.l3a_eq]
 rfl
theorem jD2 (X : List ByteArray) (s : List UInt8) (i : Nat) (y : Mt) : QB X (mkS s) 5 i y = bad9 i := by
 unfold QB
 rw [gA.l2a_eq]
 simp (disch := omega) only [ss, gA.l3a_eq]
 rw [gA.l4a_eq]
 simp (disch := omega) only [ss, gA.l5a_eq]
 rfl
theorem rY1 (X : List ByteArray) (s : List UInt8) (k i : Nat) (y : Mt) (hk : k < 2) (hp : pf (Fr k) s = false) : QB X (mkS s) k i y = bad9 i := by
 unfold QB
 rw [gA.l2a_eq]
 simp (disch := omega) only [ss, fr_k k (by omega), sM, hp, gA.l3a_eq]
 rw [gA.l4a_eq]
 simp (disch := omega) only [ss, fr_k k (by omega), sM, hp, gA.l5a_eq]
 rfl
theorem rU1 (X : List ByteArray) (s : List UInt8) (nx i : Nat) (y : Mt) (hi : i < X.length) (hX : X.getD i ByteArray.empty = mkS s) : QA X nx i y = QB X (mkS s) nx i y := by
 unfold QA QB
 rw [gA.l1a_eq]
 simp (disch := omega) only [ss, hX]
theorem tO1 (X : List ByteArray) (nx : Nat) (y : Mt) : QA X nx X.length y = if nx ≤ 1 then some (zM, (X.length : Int), 2, ()) else (wC.f y).bind fun t => bif !t.1 then some (zM, 0, 1, ()) else some (y, 0, 0, ()) := by
 unfold QA
 rw [gA.l1a_eq]
 by_cases c : nx ≤ 1
 ·rw [if_pos c]
  simp (disch := omega) only [ss]
  rfl
 ·rw [if_neg c]
  simp (disch := omega) only [ss]
  rfl
theorem qG1 (X : List ByteArray) (s : List UInt8) (hi : 0 < X.length) (hX : X.getD 0 ByteArray.empty = mkS s) :
  gA.l1 X 0 X (X.length : Int) 0 0 0 0 false 0 0 0 0 0 false 0 0 0 false 0 0 0 0 0 false = bif pf F0 s then (xC.f zM 0 (mkS (s.drop F0.length))).bind fun t => QC X ((0 : Nat) : Int) ((0 : Nat) : Int) (!t.1) t.2.1 else bad9 0 := by
 have t0 : (0 : Int).toNat = 0 := rfl
 rw [gA.l1_eq]
 simp (disch := omega) only [ss, t0, hX]
 rw [gA.l2_eq]
 simp (disch := omega) only [ss, fr0, sM]
 cases hp : pf F0 s with
 | false =>
  simp (disch := omega) only [ss, gA.l3_eq]
  rw [gA.l4_eq]
  simp (disch := omega) only [ss, fr0, sM, hp, gA.l5_eq]
  rfl
 | true =>
  have hl : F0.length ≤ s.length := by
   unfold pf at hp
   have := congrArg List.length (of_decide_eq_true hp)
   rw [cH2] at this
   omega
  have hx : (mkS s).extract F0.length s.length = mkS (s.drop F0.length) := nI (by rw [← szS s, dM, B_mk, B_mk])
  simp (disch := omega) only [ss, gA.l3_eq]
  rw [gA.l4_eq]
  simp (disch := omega) only [ss, fr0, sM, hp, szS, hx]
  congr 1
  funext t
  exact zC2 X 0 0 _ _ (by omega) (by omega)
theorem tI1 : jL zR := by unfold jL aT zR; simp
theorem mY (m : Mt) (k : Nat) (s : List UInt8) (hk : k < 5) (hs : s.length ≤ 4096) (hm : wG m) : ∃ b m', xC.f m (k : Int) (mkS s) = some (b, m', ()) ∧ wG m' := by
 rw [xC.f_eq]
 obtain ⟨h1', h2', h3'⟩ := hm
 obtain ⟨n1, t1, b1, h1⟩ := hM1 s (by omega)
 obtain ⟨n2, e2, h2, _⟩ := qV1 s (by omega)
 obtain ⟨l4, b4, h4, h5⟩ := gO1 s (by omega)
 have h3 : ∃ R n e, qA.f (mkS s) = some (R, n, e, ()) ∧ jL R := by
  rcases aG1 s (by omega) with ⟨R, h, q, _⟩ | ⟨n, e, h, _⟩
  ·exact ⟨_, _, _, h, nA2 q⟩
  ·exact ⟨_, _, _, h, tI1⟩
 obtain ⟨R, n3, e3, h3, hR⟩ := h3
 have : k = 0 ∨ k = 1 ∨ k = 2 ∨ k = 3 ∨ k = 4 := by omega
 rcases this with rfl | rfl | rfl | rfl | rfl
 ·simp (disch := omega) only [ss, h1]; exact ⟨_, _, rfl, h1', h2', h3'⟩
 ·simp (disch := omega) only [ss, h2]; exact ⟨_, _, rfl, h1', h2', h3'⟩
 ·simp (disch := omega) only [ss, h3]; exact ⟨_, _, rfl, hR, h2', h3'⟩
 ·simp (disch := omega) only [ss, h4]; exact ⟨_, _, rfl, h1', by show l4.length ≤ _; omega, h3'⟩
 ·simp (disch := omega) only [ss, h4]; exact ⟨_, _, rfl, h1', h2', by show l4.length ≤ _; omega⟩
def Told (r : Rs) : Prop := ∃ q a e, r = some (q, a, e, ()) ∧ (e = 0 → a = 0 ∧ wG q ∧ wC.f q = some (true, ())) ∧ (e ≠ 0 → q = zM)
theorem oP (i : Int) : Told (bad9 i) := ⟨_, _, _, rfl, (fun e => by omega), fun _ => rfl⟩
theorem aA2 (X : List (List UInt8)) (hX : X.length ≤ 10000) (hs : ∀ s ∈ X, s.length ≤ 4096) : ∀ (n i nx : Nat) (y : Mt), X.length - i = n → i ≤ X.length → nx ≤ 5 → wG y → Told (QA (X.map mkS) (nx : Int) (i : Int) y) := by
 intro n
 induction n with
 | zero =>
  intro i nx y hn hi hx hy
  have hm : (X.map mkS).length = X.length := yG2 ..
  have e : i = (X.map mkS).length := by omega
  rw [e, tO1]
  by_cases c : nx ≤ 1
  ·rw [if_pos c]
   exact ⟨_, _, _, rfl, (fun e => by omega), fun _ => rfl⟩
  ·rw [if_neg c]
   obtain ⟨b, hb, _⟩ := wF1 y hy
   rw [hb]
   cases b with
   | false => exact ⟨_, _, _, rfl, (fun e => by omega), fun _ => rfl⟩
   | true => exact ⟨_, _, _, rfl, (fun _ => ⟨rfl, hy, hb⟩), fun e => absurd rfl e⟩
 | succ n ih =>
  intro i nx y hn hi hx hy
  have hlt : i < X.length := by omega
  have hm : (X.map mkS).length = X.length := yG2 ..
  have hg : (X.map mkS).getD i ByteArray.empty = mkS (X.getD i []) := by
   rw [rG2, hI2, rG2, bH2 hlt]
   rfl
  have hsl := hs _ (iD [] hlt)
  have yes : ∀ k, k < 5 → pf (Fr k) (X.getD i []) = true → Told (QB (X.map mkS) (mkS (X.getD i [])) (k : Int) (i : Int) y) := by
   intro k hk hp
   obtain ⟨b, m', h1, h2⟩ := mY y k ((X.getD i []).drop (Fr k).length) hk (by rw [lH2]; omega) hy
   rw [hJ1 _ _ k i y hk (by omega) hp, h1]
   simp only [qG2]
   unfold QC
   cases b with
   | false => exact oP _
   | true => exact ih (i + 1) (k + 1) m' (by omega) (by omega) (by omega) h2
  have more : ∀ (d k : Nat), 5 - k = d → 2 ≤ k → k ≤ 5 → Told (QB (X.map mkS) (mkS (X.getD i [])) (k : Int) (i : Int) y) := by
   intro d
   induction d with
   | zero =>
    intro k hd h2 h5
    have : k = 5 := by omega
    subst this
    rw [show ((5 : Nat) : Int) = 5 from rfl, jD2]
    exact oP _
   | succ d ihd =>
    intro k hd h2 h5
    cases hp : pf (Fr k) (X.getD i []) with
    | true => exact yes k (by omega) hp
    | false =>
     rw [lC2 _ _ k i y (by omega) h2 hp]
     exact ihd (k + 1) (by omega) (by omega) (by omega)
  rw [rU1 _ (X.getD i []) nx i y (by omega) hg]
  by_cases c : 2 ≤ nx
  ·exact more _ nx rfl c hx
  ·cases hp : pf (Fr nx) (X.getD i []) with
   | true => exact yes nx (by omega) hp
   | false =>
    rw [rY1 _ _ nx i y (by omega) hp]
    exact oP _
theorem rE1 : ∀ (raw acc : List (List UInt8)), totF (sK acc raw) ≤ totF acc + totF raw ∧ (sK acc raw).length ≤ acc.length + raw.length
 | [], acc => ⟨by simp [sK, totF], by simp [sK]⟩
 | s :: r, acc => by
  have h1 := rE1 r (glue acc (lH s))
  have h2 := jK1 acc (lH s)
  have h3 := uB1 s
  rw [jQ, tL, vG2]
  omega
theorem xY (l : List UInt8) : Told (gA.f (I l)) := by
 rw [gA.f_eq]
 rcases mE1 l with h | ⟨h, k, h1, h2, h3⟩ | ⟨h, h1⟩
 ·rw [cG1 h]
  show Told (some (zM, 0, 3, ()))
  exact ⟨_, _, _, rfl, (fun e => by omega), fun _ => rfl⟩
 ·rw [hN1 h h1 h2 h3]
  show Told (some (zM, (k : Int), 4, ()))
  exact ⟨_, _, _, rfl, (fun e => by omega), fun _ => rfl⟩
 ·rw [nO h h1]
  obtain ⟨X, hX⟩ : ∃ X, X = sK [] (wE l) := ⟨_, rfl⟩
  rw [← hX]
  have hp := eY l
  have hl := rE1 (wE l) []
  rw [← hX] at hl
  have h0 : totF ([] : List (List UInt8)) = 0 := rfl
  have hn : ([] : List (List UInt8)).length = 0 := rfl
  have hs : ∀ s ∈ X, s.length ≤ 4096 := by
   intro s hs
   have := nI1 hs
   have : 0 < X.length := List.length_pos_of_mem hs
   omega
  simp (disch := omega) only [ss]
  have hm : (X.map mkS).length = X.length := yG2 ..
  by_cases c : 0 < X.length
  ·have hg : (X.map mkS).getD 0 ByteArray.empty = mkS (X.getD 0 []) := by
    rw [rG2, hI2, rG2, bH2 c]
    rfl
   rw [qG1 (X.map mkS) (X.getD 0 []) (by omega) hg]
   cases pf F0 (X.getD 0 []) with
   | false => exact oP 0
   | true =>
    obtain ⟨b, m', g1, g2⟩ := mY zM 0 ((X.getD 0 []).drop F0.length) (by omega) (by have := hs _ (iD [] c); rw [lH2]; omega) ⟨tI1, aH2 _, aH2 _⟩
    rw [eH2] at g1
    rw [cond_true, g1]
    simp only [qG2]
    unfold QC
    cases b with
    | false => exact oP _
    | true => exact aA2 X (by omega) hs _ 1 1 m' rfl (by omega) (by omega) g2
  ·have : X = [] := iH2 (by omega)
   subst this
   rw [gA.l1_eq]
   exact ⟨_, _, _, rfl, (fun e => by omega), fun _ => rfl⟩
theorem hD1 (L : List (List UInt8)) (h : L.all mayB = true) (hl : (jE L).length ≤ 4096) : cC.f (I (jE L)) = some (L.map mkS, 0, 0, ()) := by
 rw [nO hl (wQ1 _ (tV L h) (tF1 L h)), sR L [] h, eI2]
theorem jR (X : List ByteArray) (i : Nat) (s : ByteArray) (r : List ByteArray) (h : X.drop i = s :: r) : i < X.length ∧ X.getD i ByteArray.empty = s ∧ X.drop (i + 1) = r := by
 have hl : i < X.length := by
  have := congrArg List.length h
  rw [lH2, vG2] at this
  omega
 rw [iC ByteArray.empty hl] at h
 injection h with h1 h2
 exact ⟨hl, h1, h2⟩
theorem gJ1 (X : List ByteArray) (k : Nat) (v : List UInt8) (r : List ByteArray) (i : Nat) (y y' : Mt) (hk : k < 5) (hi : i < 1000) (hd : X.drop i = mkS (Fr k ++ v) :: r) (hy : xC.f y (k : Int) (mkS v) = some (true, y', ())) :
  ∀ (d nx : Nat), k - nx = d → nx ≤ k → (nx < 2 → k = nx) → QA X (nx : Int) (i : Int) y = QA X ((k + 1 : Nat) : Int) ((i + 1 : Nat) : Int) y' := by
 obtain ⟨hl, hg, hr⟩ := jR X i _ r hd
 have base : QB X (mkS (Fr k ++ v)) (k : Int) (i : Int) y = QA X ((k + 1 : Nat) : Int) ((i + 1 : Nat) : Int) y' := by
  rw [hJ1 X _ k i y hk (by omega) (oV k v), nI2, hy]
  rfl
 have go : ∀ (d nx : Nat), k - nx = d → nx ≤ k → (nx < 2 → k = nx) → QB X (mkS (Fr k ++ v)) (nx : Int) (i : Int) y = QA X ((k + 1 : Nat) : Int) ((i + 1 : Nat) : Int) y' := by
  intro d
  induction d with
  | zero =>
   intro nx hd hn h2
   have : nx = k := by omega
   subst this
   exact base
  | succ d ih =>
   intro nx hd hn h2
   rw [lC2 X _ nx i y (by omega) (Classical.byContradiction fun q => by have := h2 (by omega); omega) (nF2 nx k (by omega) hk (by omega) v)]
   exact ih (nx + 1) (by omega) (by omega) (fun q => by have := h2 (by omega); omega)
 intro d nx h1 h2 h3
 rw [rU1 X _ nx i y hl hg]
 exact go d nx h1 h2 h3
theorem eB1 (X : List ByteArray) (k nx i : Nat) (b : Bool) (v : List UInt8) (rest : List (List UInt8)) (y y' : Mt) (h2 : 2 ≤ nx) (hn : nx ≤ k) (hk : k < 5) (hi : i < 1000) (hX : i ≤ X.length) (hd : X.drop i = (optL b (Fr k ++ v) ++ rest).map mkS)
  (hy : b = true → xC.f y (k : Int) (mkS v) = some (true, y', ())) (hn' : b = false → y' = y) :
  ∃ nx' i', 2 ≤ nx' ∧ nx' ≤ k + 1 ∧ i' ≤ i + 1 ∧ i' ≤ X.length ∧ X.drop i' = rest.map mkS ∧ QA X (nx : Int) (i : Int) y = QA X (nx' : Int) (i' : Int) y' := by
 cases b with
 | false =>
  rw [hn' rfl]
  exact ⟨nx, i, h2, by omega, by omega, hX, hd, rfl⟩
 | true =>
  have hd : X.drop i = mkS (Fr k ++ v) :: rest.map mkS := hd
  obtain ⟨hl, hg, hr⟩ := jR X i _ _ hd
  exact ⟨k + 1, i + 1, by omega, by omega, by omega, by omega, hr, gJ1 X k v _ i y y' hk hi hd (hy rfl) _ nx rfl hn (fun q => by omega)⟩
theorem uD1 (m : Mt) (hs : wG m) (hM : mayM m) : (vE m).all mayB = true := by
 obtain ⟨z, st, du, rc, r, da, ex, ⟨⟩⟩ := m
 obtain ⟨s1, s2, s3⟩ := hs
 obtain ⟨m1, m2, m3, m4, m5, m6, m7, m8, m9⟩ := hM
 dsimp only at s1 s2 s3 m1 m2 m3 m4 m5 m6 m7 m8 m9
 obtain ⟨d1, d2, d3⟩ := jK m6
 obtain ⟨e1, e2, e3⟩ := jK m7
 have pd : ∀ n, allP (durT n) := by
  intro n
  have pp : ∀ k u, wide [u] = true → allP (part k u) := by
   intro k u hu
   unfold part
   split
   ·exact fun c hc => by cases hc
   ·exact aG (sN1 k) (rP hu)
  unfold durT
  split
  ·exact aG (aG (rP (by decide)) (sN1 _)) (rP (by decide))
  ·split
   ·exact aG (rP (by decide)) (pp _ _ (by decide))
   ·exact aG (aG (rP (by decide)) (pp _ _ (by decide))) (aG (aG (aG (rP (by decide)) (pp _ _ (by decide))) (pp _ _ (by decide))) (pp _ _ (by decide)))
 have pl : ∀ l : List Int, (∀ t ∈ l, innP t) → allP (jn 44 (l.map utx)) := by
  intro l hl
  refine lG1 44 (by decide) _ fun s hs => ?_
  obtain ⟨t, ht, rfl⟩ := gH2.1 hs
  exact rK1 t (zH (hl t ht))
 have q : ∀ (F v : List UInt8), wide F = true → F ≠ [] → allP v → mayB (F ++ v) = true := fun F v hF hne hv => lD2 (aG (rP hF) hv) (by simp [hne])
 have o : ∀ (b : Bool) (F v : List UInt8), wide F = true → F ≠ [] → (b = true → allP v) → (optL b (F ++ v)).all mayB = true := by
  intro b F v h1 h2 h3
  cases b with
  | false => rfl
  | true =>
   show (mayB (F ++ v) && true) = true
   rw [q F v h1 h2 (h3 rfl)]
   rfl
 unfold vE
 rw [List.all_append, List.all_append, List.all_append, oG2, oG2, oG2]
 refine ⟨⟨⟨?_, o _ _ _ (by decide) (by decide) fun h => fU1 r s1 (m8 h)⟩, o _ _ _ (by decide) (by decide) fun _ => pl da d3⟩, o _ _ _ (by decide) (by decide) fun _ => pl ex e3⟩
 have h0 : mayB (F0 ++ v0 (z, st, du, rc, r, da, ex, ())) = true := q _ _ (by decide) (by decide) (aG (sN1 _) (aG (a := [58]) (rP (by decide)) (rK1 st (zH m3))))
 have h1 : mayB (F1 ++ durT du.toNat) = true := q _ _ (by decide) (by decide) (pd _)
 show (mayB (F0 ++ v0 (z, st, du, rc, r, da, ex, ())) && (mayB (F1 ++ durT du.toNat) && true)) = true
 rw [h0, h1]
 rfl
theorem bK (m : Mt) (hs : wG m) (hM : mayM m) (hl : (jE (vE m)).length ≤ 4096) : gA.f (I (jE (vE m))) = some (m, 0, 0, ()) := by
 have hMay : wC.f m = some (true, ()) := by
  obtain ⟨b, hb, hb2⟩ := wF1 m hs
  rw [hb, hb2.2 hM]
 rw [gA.f_eq, hD1 _ (uD1 m hs hM) hl]
 obtain ⟨z, st, du, rc, r, da, ex, ⟨⟩⟩ := m
 obtain ⟨s1, s2, s3⟩ := hs
 obtain ⟨m1, m2, m3, m4, m5, m6, m7, m8, m9⟩ := hM
 dsimp only at s1 s2 s3 m1 m2 m3 m4 m5 m6 m7 m8 m9
 obtain ⟨d1, d2, d3⟩ := jK m6
 obtain ⟨e1, e2, e3⟩ := jK m7
 obtain ⟨n, rfl⟩ := zH2 (show 0 ≤ du by omega)
 obtain ⟨zn, rfl⟩ := zH2 m1
 obtain ⟨X, hX⟩ : ∃ X, X = (vE ((zn : Int), st, (n : Int), rc, r, da, ex, ())).map mkS := ⟨_, rfl⟩
 have hX0 : X = mkS (Fr 0 ++ v0 ((zn : Int), st, (n : Int), rc, r, da, ex, ())) :: mkS (Fr 1 ++ durT n) :: (optL rc (Fr 2 ++ jn 59 (pts r)) ++ (optL (decide (0 < da.length)) (Fr 3 ++ jn 44 (da.map utx)) ++ (optL (decide (0 < ex.length)) (Fr 4 ++ jn 44 (ex.map utx)) ++ []))).map mkS := by
  rw [hX]
  unfold vE
  simp [Fr]
 rw [← hX]
 have g0 : X.getD 0 ByteArray.empty = mkS (Fr 0 ++ v0 ((zn : Int), st, (n : Int), rc, r, da, ex, ())) := by rw [hX0]; rfl
 have dX : X.drop 1 = mkS (Fr 1 ++ durT n) :: (optL rc (Fr 2 ++ jn 59 (pts r)) ++ (optL (decide (0 < da.length)) (Fr 3 ++ jn 44 (da.map utx)) ++ (optL (decide (0 < ex.length)) (Fr 4 ++ jn 44 (ex.map utx)) ++ []))).map mkS := by rw [hX0]; rfl
 have lX : 2 ≤ X.length := by rw [hX0]; simp
 have r0 : xC.f zM 0 (mkS (v0 ((zn : Int), st, (n : Int), rc, r, da, ex, ()))) = some (true, ((zn : Int), st, 0, false, zR, [], [], ()), ()) := by
  have := aM1 zn st (by omega) (zH m3)
  unfold v0
  rw [xC.f_eq]
  simp (disch := omega) only [ss, this]
 have r1 : xC.f ((zn : Int), st, 0, false, zR, [], [], ()) ((1 : Nat) : Int) (mkS (durT n)) = some (true, ((zn : Int), st, (n : Int), false, zR, [], [], ()), ()) := by
  rw [xC.f_eq]
  simp (disch := omega) only [ss, yP1 n (by omega) (by omega)]
 have r2 : rc = true → xC.f ((zn : Int), st, (n : Int), false, zR, [], [], ()) ((2 : Nat) : Int) (mkS (jn 59 (pts r))) = some (true, ((zn : Int), st, (n : Int), rc, r, [], [], ()), ()) := by
  intro e
  subst e
  rw [xC.f_eq]
  simp (disch := omega) only [ss, pM1 r s1 (m8 rfl)]
 have r2' : rc = false → (((zn : Int), st, (n : Int), rc, r, [], [], ()) : Mt) = ((zn : Int), st, (n : Int), false, zR, [], [], ()) := fun e => by rw [e, m9 e]
 have r3 : decide (0 < da.length) = true → xC.f ((zn : Int), st, (n : Int), rc, r, [], [], ()) ((3 : Nat) : Int) (mkS (jn 44 (da.map utx))) = some (true, ((zn : Int), st, (n : Int), rc, r, da, [], ()), ()) := by
  intro e
  rw [decide_eq_true_eq] at e
  rw [xC.f_eq]
  simp (disch := omega) only [ss, vC1 da (aJ2.1 e) d1 d2 fun t ht => zH (d3 t ht)]
 have nil : ∀ l : List Int, decide (0 < l.length) = false → l = [] := fun l e => by
  rw [decide_eq_false_iff_not] at e
  exact iH2 (by omega)
 have r4 : decide (0 < ex.length) = true → xC.f ((zn : Int), st, (n : Int), rc, r, da, [], ()) ((4 : Nat) : Int) (mkS (jn 44 (ex.map utx))) = some (true, ((zn : Int), st, (n : Int), rc, r, da, ex, ()), ()) := by
  intro e
  rw [decide_eq_true_eq] at e
  rw [xC.f_eq]
  simp (disch := omega) only [ss, vC1 ex (aJ2.1 e) e1 e2 fun t ht => zH (e3 t ht)]
 have t1 := gJ1 X 1 (durT n) _ 1 _ _ (by omega) (by omega) dX r1 _ 1 rfl (zG2 _) (fun _ => rfl)
 have d2' := (jR X 1 _ _ dX).2.2
 obtain ⟨n3, i3, a1, a2, a3, a4, a5, a6⟩ := eB1 X 2 2 2 rc (jn 59 (pts r)) _ ((zn : Int), st, (n : Int), false, zR, [], [], ()) ((zn : Int), st, (n : Int), rc, r, [], [], ()) (by omega) (by omega) (by omega) (by omega) lX d2' r2 r2'
 obtain ⟨n4, i4, b1, b2, b3, b4, b5, b6⟩ := eB1 X 3 n3 i3 _ _ _ ((zn : Int), st, (n : Int), rc, r, [], [], ()) ((zn : Int), st, (n : Int), rc, r, da, [], ()) a1 a2 (by omega) (by omega) a4 a5 r3 (fun e => by rw [nil da e])
 obtain ⟨n5, i5, c1, c2, c3, c4, c5, c6⟩ := eB1 X 4 n4 i4 _ _ _ ((zn : Int), st, (n : Int), rc, r, da, [], ()) ((zn : Int), st, (n : Int), rc, r, da, ex, ()) b1 b2 (by omega) (by omega) b4 b5 r4 (fun e => by rw [nil ex e])
 have h5 : i5 = X.length := by
  have := congrArg List.length c5
  rw [lH2] at this
  simp at this
  omega
 simp (disch := omega) only [ss]
 have hp : pf F0 (Fr 0 ++ v0 ((zn : Int), st, (n : Int), rc, r, da, ex, ())) = true := oV 0 _
 have hdr : (Fr 0 ++ v0 ((zn : Int), st, (n : Int), rc, r, da, ex, ())).drop F0.length = v0 ((zn : Int), st, (n : Int), rc, r, da, ex, ()) := nI2 (l₁ := F0)
 rw [qG1 X _ (by omega) g0, hp, cond_true, hdr, r0]
 simp only [qG2]
 show QA X (((1 : Nat) : Int)) (((1 : Nat) : Int)) _ = _
 rw [t1]
 refine a6.trans (b6.trans (c6.trans ?_))
 rw [h5, tO1, if_neg (by omega), hMay]
 rfl
theorem tO (a b : Mt) (ha : wG a) : hE (uG.f a b) (a = b) := by
 obtain ⟨z, st, du, rc, r, da, ex, ⟨⟩⟩ := a
 obtain ⟨z', st', du', rc', r', da', ex', ⟨⟩⟩ := b
 obtain ⟨h1, h2, h3⟩ := ha
 dsimp only at h1 h2 h3
 have no : ∀ {p : Prop}, ¬ p → hE (some (false, ())) p := fun h => ⟨false, rfl, by simp [h]⟩
 obtain ⟨u, hu, eu⟩ := gZ r r' h1
 rw [uG.f_eq]
 dsimp only
 by_cases c1 : z = z'
 ·rw [dp c1, cond_true]
  by_cases c2 : st = st'
  ·rw [dp c2, cond_true]
   by_cases c3 : du = du'
   ·rw [dp c3, cond_true]
    by_cases c4 : rc = rc'
    ·subst c4
     rw [beq_self_eq_true, cond_true, hu]
     simp only [qG2]
     cases u with
     | false =>
      rw [cond_false]
      exact no fun e => by
       have := eu.2 (by injection e with _ e; injection e with _ e; injection e with _ e; injection e with _ e; injection e)
       cases this
     | true =>
      rw [cond_true, eqI2 da da' h2]
      simp only [qG2]
      by_cases c5 : da = da'
      ·rw [dp c5, cond_true, eqI2 ex ex' h3]
       refine ⟨_, rfl, ?_⟩
       rw [decide_eq_true_eq, eu.1 rfl, c1, c2, c3, c5]
       exact ⟨fun e => by rw [e], fun e => by injection e with _ e; injection e with _ e; injection e with _ e; injection e with _ e; injection e with _ e; injection e with _ e; injection e⟩
      ·rw [dn c5, cond_false]
       exact no fun e => c5 (by injection e with _ e; injection e with _ e; injection e with _ e; injection e with _ e; injection e with _ e; injection e)
    ·rw [show (rc == rc') = false from by cases rc <;> cases rc' <;> first | rfl | exact absurd rfl c4, cond_false]
     exact no fun e => c4 (by injection e with _ e; injection e with _ e; injection e with _ e; injection e)
   ·rw [dn c3, cond_false]
    exact no fun e => c3 (by injection e with _ e; injection e with _ e; injection e)
  ·rw [dn c2, cond_false]
   exact no fun e => c2 (by injection e with _ e; injection e)
 ·rw [dn c1, cond_false]
  exact no fun e => c1 (by injection e)
theorem yY (a : Mt) (ha : wG a) : uG.f a a = some (true, ()) := by
 obtain ⟨b, hb, hb2⟩ := tO a a ha
 rw [hb, hb2.2 rfl]
theorem iS1 (m : Mt) (hs : wG m) (hM : ¬ mayM m) : yB.f m = some ([], 1, ()) := by
 obtain ⟨b, hb, hb2⟩ := wF1 m hs
 cases b with
 | true => exact absurd (hb2.1 rfl) hM
 | false =>
  rw [yB.f_eq, hb]
  rfl
theorem mA1 (b : Bool) (x : List UInt8) (n : Nat) (h : b = true → x.length ≤ n) : totF (optL b x) ≤ n ∧ (optL b x).length ≤ 1 := by
 cases b with
 | false => exact ⟨aH2 _, by unfold optL; simp⟩
 | true =>
  have := h rfl
  unfold optL
  simp [totF]
  exact this
theorem oQ1 (m : Mt) (hs : wG m) (hM : mayM m) : (vE m).length ≤ 5 ∧ totF (vE m) ≤ 7000 := by
 obtain ⟨z, st, du, rc, r, da, ex, ⟨⟩⟩ := m
 obtain ⟨s1, s2, s3⟩ := hs
 obtain ⟨m1, m2, m3, m4, m5, m6, m7, m8, m9⟩ := hM
 dsimp only at s1 s2 s3 m1 m2 m3 m4 m5 m6 m7 m8 m9
 obtain ⟨d1, d2, d3⟩ := jK m6
 obtain ⟨e1, e2, e3⟩ := jK m7
 have u0 := (dI st (zH m3)).1
 have ldt := sR1 du.toNat (by omega)
 have lD := (eL z.toNat).2 (by omega)
 have lda := nT da d1 fun t ht => zH (d3 t ht)
 have lex := nT ex e1 fun t ht => zH (e3 t ht)
 have lF0 : F0.length = 13 := rfl
 have lF1 : F1.length = 9 := rfl
 have lF2 : F2.length = 6 := rfl
 have lF3 : F3.length = 6 := rfl
 have lF4 : F4.length = 7 := rfl
 have q2 := mA1 rc (F2 ++ jn 59 (pts r)) 4102 fun h => by
  have := (iF1 r s1 (m8 h)).2
  rw [pG2]
  omega
 have q3 := mA1 (decide (0 < da.length)) (F3 ++ jn 44 (da.map utx)) 1106 fun h => by rw [pG2]; omega
 have q4 := mA1 (decide (0 < ex.length)) (F4 ++ jn 44 (ex.map utx)) 1107 fun h => by rw [pG2]; omega
 have q0 : (F0 ++ v0 (z, st, du, rc, r, da, ex, ())).length ≤ 40 := by
  unfold v0
  rw [pG2, pG2, vG2]
  dsimp only
  omega
 have q1 : (F1 ++ durT du.toNat).length ≤ 69 := by rw [pG2]; omega
 have e : vE (z, st, du, rc, r, da, ex, ()) = [F0 ++ v0 (z, st, du, rc, r, da, ex, ()), F1 ++ durT du.toNat] ++ optL rc (F2 ++ jn 59 (pts r)) ++ optL (decide (0 < da.length)) (F3 ++ jn 44 (da.map utx)) ++ optL (decide (0 < ex.length)) (F4 ++ jn 44 (ex.map utx)) := rfl
 rw [e]
 generalize v0 (z, st, du, rc, r, da, ex, ()) = V at q0
 generalize durT du.toNat = W at q1
 have t2 : totF [F0 ++ V, F1 ++ W] ≤ 109 := by
  simp only [totF, tH2, List.map_nil, List.sum_cons, List.sum_nil]
  omega
 have l2 : [F0 ++ V, F1 ++ W].length = 2 := rfl
 rw [pG2, pG2, pG2, aJ, aJ, aJ]
 omega
theorem bM1 (m : Mt) (hs : wG m) (hM : mayM m) : yB.f m = if 4096 < (jE (vE m)).length then some ([], 3, ()) else some (I (jE (vE m)), 0, ()) := by
 have hl := oQ1 m hs hM
 rw [lZ1 m hs hM, (rV1 (vE m) (by omega) (by omega))]
 unfold gA2
 rw [if_pos (uD1 m hs hM)]
 split <;> rfl
theorem iD2 (m : Mt) (hs : wG m) (h : wC.f m = some (true, ())) : mayM m := by
 obtain ⟨b, hb, hb2⟩ := wF1 m hs
 rw [hb] at h
 exact hb2.1 (congrArg Prod.fst (nH2 h))
theorem bD2 (m : Mt) (hs : wG m) (h : mayM m) : wC.f m = some (true, ()) := by
 obtain ⟨b, hb, hb2⟩ := wF1 m hs
 rw [hb, hb2.2 h]
theorem cE2 (m : Mt) (hs : wG m) (h : ¬ mayM m) : wC.f m = some (false, ()) := by
 obtain ⟨b, hb, hb2⟩ := wF1 m hs
 cases b with
 | true => exact absurd (hb2.1 rfl) h
 | false => exact hb
theorem lL (m : Mt) (hs : wG m) : (mayM m ∧ (jE (vE m)).length ≤ 4096 ∧ yB.f m = some (I (jE (vE m)), 0, ())) ∨ (∃ e : Int, yB.f m = some ([], e, ()) ∧ (e = 1 ∧ ¬ mayM m ∨ e = 3 ∧ mayM m)) := by
 by_cases h : mayM m
 ·have hp := bM1 m hs h
  by_cases c : 4096 < (jE (vE m)).length
  ·rw [if_pos c] at hp
   exact .inr ⟨3, hp, .inr ⟨rfl, h⟩⟩
  ·rw [if_neg c] at hp
   exact .inl ⟨h, by omega, hp⟩
 ·exact .inr ⟨1, iS1 m hs h, .inl ⟨rfl, h⟩⟩
set_option maxRecDepth 1000000
abbrev r0 : Int × Int × Int × Int × Int × Bool × List Int × List Int × List Int × List Int × List (Int × Int × Unit) × List Int × List Int × List Int × List Int × Unit := (3, 1, 2, 0, 0, false, [], [], [], [], [], [], [], [], [], ())
theorem oE2 : bB.f ⟨#[50, 48, 50, 54, 48, 51, 48, 49, 84, 48, 48, 48, 48, 48, 48]⟩ = some (1772323200, 0, ()) := pC (E := E) (f := 40) rfl (D := c40) (c := b40) (by kernel_rfl) (by kernel_rfl) _ 100 (by kernel_rfl)
theorem ex_a : bB.f ⟨#[50, 48, 50, 54, 48, 49, 48, 53, 84, 48, 56, 48, 48, 48, 48]⟩ = some (1767600000, 0, ()) := pC (E := E) (f := 40) rfl (D := c40) (c := b40) (by kernel_rfl) (by kernel_rfl) _ 100 (by kernel_rfl)
theorem ex_b : bB.f ⟨#[50, 48, 50, 54, 48, 49, 49, 50, 84, 48, 56, 48, 48, 48, 48]⟩ = some (1768204800, 0, ()) := pC (E := E) (f := 40) rfl (D := c40) (c := b40) (by kernel_rfl) (by kernel_rfl) _ 100 (by kernel_rfl)
theorem cG2 : aU.f (3600, [], [], 0, ()) 1767603600 = some (1767600000, ()) := pC (E := E) (f := 24) rfl (D := c24) (c := b24) (by kernel_rfl) (by kernel_rfl) _ 100 (by kernel_rfl)
theorem jG2 : aU.f (3600, [], [], 0, ()) 1768208400 = some (1768204800, ()) := pC (E := E) (f := 24) rfl (D := c24) (c := b24) (by kernel_rfl) (by kernel_rfl) _ 100 (by kernel_rfl)
theorem ex_z : xB1.f (3600, [], [], 0, ()) = some (true, ()) := pC (E := E) (f := 56) rfl (D := c56) (c := b56) (by kernel_rfl) (by kernel_rfl) _ 100 (by kernel_rfl)
theorem ex_m : wC.f (0, 1767603600, 3600, true, r0, [], [], ()) = some (true, ()) := pC (E := E) (f := 27) rfl (D := c27) (c := b27) (by kernel_rfl) (by kernel_rfl) _ 100 (by kernel_rfl)
set_option maxRecDepth 1000000
abbrev exA : List UInt8 := [48, 58, 50, 48, 50, 54, 48, 49, 48, 53, 84, 48, 57, 48, 48, 48, 48]
abbrev exB : List UInt8 := [80, 84, 49, 72]
abbrev exR : List UInt8 := [70, 82, 69, 81, 61, 87, 69, 69, 75, 76, 89, 59, 67, 79, 85, 78, 84, 61, 50]
abbrev exT : List UInt8 := (F0 ++ exA) ++ 13 :: 10 :: ((F1 ++ exB) ++ 13 :: 10 :: ((F2 ++ exR) ++ [13, 10]))
theorem pU1 : eE.f ⟨#[48, 58, 50, 48, 50, 54, 48, 49, 48, 53, 84, 48, 57, 48, 48, 48, 48]⟩ = some (0, 1767603600, true, ()) := pC (E := E) (f := 146) rfl (D := c146) (c := b146) (by kernel_rfl) (by kernel_rfl) _ 100 (by kernel_rfl)
theorem fD2 : eA.f ⟨#[80, 84, 49, 72]⟩ = some (3600, 0, ()) := pC (E := E) (f := 147) rfl (D := c147) (c := b147) (by kernel_rfl) (by kernel_rfl) _ 100 (by kernel_rfl)
theorem kY1 : qA.f ⟨#[70, 82, 69, 81, 61, 87, 69, 69, 75, 76, 89, 59, 67, 79, 85, 78, 84, 61, 50]⟩ = some (r0, 0, 0, ()) := pC (E := E) (f := 148) rfl (D := c148) (c := b148) (by kernel_rfl) (by kernel_rfl) _ 100 (by kernel_rfl)
theorem eW1 : cC.f (I exT) = some ([F0 ++ exA, F1 ++ exB, F2 ++ exR].map mkS, 0, 0, ()) := by
 have hg : ∀ i, i < exT.length → bad exT i = false := by decide
 have hl : exT.length ≤ 4096 := by decide
 have := nO hl hg
 have e : sK [] (wE exT) = [F0 ++ exA, F1 ++ exB, F2 ++ exR] := by decide
 rw [e] at this
 exact this
theorem ex_p : gA.f [68, 84, 83, 84, 65, 82, 84, 59, 84, 90, 73, 68, 61, 48, 58, 50, 48, 50, 54, 48, 49, 48, 53, 84, 48, 57, 48, 48, 48, 48, 13, 10, 68, 85, 82, 65, 84, 73, 79, 78, 58, 80, 84, 49, 72, 13, 10, 82, 82, 85, 76, 69, 58, 70, 82, 69, 81, 61, 87, 69, 69, 75, 76, 89, 59, 67, 79, 85, 78, 84, 61, 50, 13, 10] = some ((0, 1767603600, 3600, true, r0, [], [], ()), 0, 0, ()) := by
 have hs : cC.f [68, 84, 83, 84, 65, 82, 84, 59, 84, 90, 73, 68, 61, 48, 58, 50, 48, 50, 54, 48, 49, 48, 53, 84, 48, 57, 48, 48, 48, 48, 13, 10, 68, 85, 82, 65, 84, 73, 79, 78, 58, 80, 84, 49, 72, 13, 10, 82, 82, 85, 76, 69, 58, 70, 82, 69, 81, 61, 87, 69, 69, 75, 76, 89, 59, 67, 79, 85, 78, 84, 61, 50, 13, 10] = some ([F0 ++ exA, F1 ++ exB, F2 ++ exR].map mkS, 0, 0, ()) := eW1
 obtain ⟨X, hX⟩ : ∃ X, X = [F0 ++ exA, F1 ++ exB, F2 ++ exR].map mkS := ⟨_, rfl⟩
 have hl : X.length = 3 := by rw [hX]; rfl
 have g0 : X.getD 0 ByteArray.empty = mkS (Fr 0 ++ exA) := by rw [hX]; rfl
 have g1 : X.getD 1 ByteArray.empty = mkS (Fr 1 ++ exB) := by rw [hX]; rfl
 have g2 : X.getD 2 ByteArray.empty = mkS (Fr 2 ++ exR) := by rw [hX]; rfl
 have r1 : xC.f zM 0 (mkS exA) = some (true, (0, 1767603600, 0, false, zR, [], [], ()), ()) := by
  rw [xC.f_eq]
  simp (disch := omega) only [ss, show eE.f (mkS exA) = _ from pU1]
 have r2 : xC.f (0, 1767603600, 0, false, zR, [], [], ()) ((1 : Nat) : Int) (mkS exB) = some (true, (0, 1767603600, 3600, false, zR, [], [], ()), ()) := by
  rw [xC.f_eq]
  simp (disch := omega) only [ss, show eA.f (mkS exB) = _ from fD2]
 have r3 : xC.f (0, 1767603600, 3600, false, zR, [], [], ()) ((2 : Nat) : Int) (mkS exR) = some (true, (0, 1767603600, 3600, true, r0, [], [], ()), ()) := by
  rw [xC.f_eq]
  simp (disch := omega) only [ss, show qA.f (mkS exR) = _ from kY1]
 have hm : wC.f (0, 1767603600, 3600, true, r0, [], [], ()) = some (true, ()) := ex_m
 rw [gA.f_eq, hs, ← hX]
 simp only [qG2, decide_true, dI2, cond_false]
 rw [qG1 X _ (by omega) g0, show pf F0 (Fr 0 ++ exA) = true from oV 0 exA, cond_true, show (Fr 0 ++ exA).drop F0.length = exA from nI2 (l₁ := F0), r1]
 simp only [qG2]
 show QA X ((1 : Nat) : Int) ((1 : Nat) : Int) _ = _
 rw [rU1 X _ 1 1 _ (by omega) g1, hJ1 X _ 1 1 _ (by omega) (by omega) (oV 1 exB), nI2, r2]
 simp only [qG2]
 show QA X ((2 : Nat) : Int) ((2 : Nat) : Int) _ = _
 rw [rU1 X _ 2 2 _ (by omega) g2, hJ1 X _ 2 2 _ (by omega) (by omega) (oV 2 exR), nI2, r3]
 simp only [qG2]
 show QA X ((3 : Nat) : Int) ((3 : Nat) : Int) _ = _
 have := tO1 X 3 (0, 1767603600, 3600, true, r0, [], [], ())
 rw [hl, if_neg (by omega), hm] at this
 exact this
set_option maxRecDepth 1000000
abbrev exD : Int × Int × Int × Int × Int × Unit := (20458, 2026, 1, 5, 0, ())
abbrev exP : (Int × Int × Int × Int × Int × Bool × List Int × List Int × List Int × List Int × List (Int × Int × Unit) × List Int × List Int × List Int × List Int × Unit) × ((Int × Int × Int × Int × Int × Bool × List Int × List Int × List Int × List Int × List (Int × Int × Unit) × List Int × List Int × List Int × List Int × Unit) × Int × (Int × Int × Int × Int × Int × Unit) × Int × Unit) × Int × List Int × List Int × List Int × Unit := (r0, (r0, 1767603600, exD, 32400, ()), 1767603600, [9], [0], [0], ())
theorem nZ1 : oU.f r0 1767603600 1772496000 = some (exP, true, ()) := pC (E := E) (f := 103) rfl (D := c103) (c := b103) (by kernel_rfl) (by kernel_rfl) _ 120 (by kernel_rfl)
theorem tE2 : sG.f (r0, 1767603600, exD, 32400, ()) 1767603600 = some (20458, 20464, ()) := pC (E := E) (f := 274) rfl (D := c274) (c := b274) (by kernel_rfl) (by kernel_rfl) _ 60 (by kernel_rfl)
theorem mF2 : sG.f (r0, 1767603600, exD, 32400, ()) 1768176000 = some (20465, 20471, ()) := pC (E := E) (f := 274) rfl (D := c274) (c := b274) (by kernel_rfl) (by kernel_rfl) _ 60 (by kernel_rfl)
theorem zF2 : rK.f exP 1767603600 = some (true, ()) := pC (E := E) (f := 275) rfl (D := c275) (c := b275) (by kernel_rfl) (by kernel_rfl) _ 60 (by kernel_rfl)
theorem uF2 : rK.f exP 1768176000 = some (true, ()) := pC (E := E) (f := 275) rfl (D := c275) (c := b275) (by kernel_rfl) (by kernel_rfl) _ 60 (by kernel_rfl)
theorem hF2 : dD.f exP 20458 = some (true, ()) := pC (E := E) (f := 277) rfl (D := c277) (c := b277) (by kernel_rfl) (by kernel_rfl) _ 60 (by kernel_rfl)
theorem hG2 : dD.f exP 20459 = some (false, ()) := pC (E := E) (f := 277) rfl (D := c277) (c := b277) (by kernel_rfl) (by kernel_rfl) _ 60 (by kernel_rfl)
theorem zE2 : dD.f exP 20460 = some (false, ()) := pC (E := E) (f := 277) rfl (D := c277) (c := b277) (by kernel_rfl) (by kernel_rfl) _ 60 (by kernel_rfl)
theorem gF2 : dD.f exP 20461 = some (false, ()) := pC (E := E) (f := 277) rfl (D := c277) (c := b277) (by kernel_rfl) (by kernel_rfl) _ 60 (by kernel_rfl)
theorem oF2 : dD.f exP 20462 = some (false, ()) := pC (E := E) (f := 277) rfl (D := c277) (c := b277) (by kernel_rfl) (by kernel_rfl) _ 60 (by kernel_rfl)
theorem sF2 : dD.f exP 20463 = some (false, ()) := pC (E := E) (f := 277) rfl (D := c277) (c := b277) (by kernel_rfl) (by kernel_rfl) _ 60 (by kernel_rfl)
theorem qF2 : dD.f exP 20464 = some (false, ()) := pC (E := E) (f := 277) rfl (D := c277) (c := b277) (by kernel_rfl) (by kernel_rfl) _ 60 (by kernel_rfl)
theorem wF2 : dD.f exP 20465 = some (true, ()) := pC (E := E) (f := 277) rfl (D := c277) (c := b277) (by kernel_rfl) (by kernel_rfl) _ 60 (by kernel_rfl)
theorem lG2 : mJ.f exP 20458 0 86400 100000 () = some ([1767603600], (), ()) := pC (E := E) (f := 100000) rfl (D := tA1) (c := uQ1) (by kernel_rfl) (by kernel_rfl) _ 60 (by kernel_rfl)
theorem tF2 : mJ.f exP 20465 0 86400 100000 () = some ([1768208400], (), ()) := pC (E := E) (f := 100000) rfl (D := tA1) (c := uQ1) (by kernel_rfl) (by kernel_rfl) _ 60 (by kernel_rfl)
abbrev exC (l : List Int) : (Int × Unit) × (Int × Unit) × ((((List Int) × Unit) × (Int × Unit) × Unit) × Unit) × Unit := ((1767603600, ()), (1772496000, ()), (((l, ()), (2, ()), ()), ()), ())
theorem fG2 : bG.f [1767603600] (1767603600, ()) (1772496000, ()) ((([], ()), (2, ()), ()), ()) = some (true, (1767603600, ()), (1772496000, ()), ((([1767603600], ()), (2, ()), ()), ()), ()) := pC (E := E) (f := 100004) rfl (D := vZ) (c := iP1) (by kernel_rfl) (by kernel_rfl) _ 60 (by kernel_rfl)
theorem qE2 : bG.f [1768208400] (1767603600, ()) (1772496000, ()) ((([1767603600], ()), (2, ()), ()), ()) = some (false, (1767603600, ()), (1772496000, ()), ((([1767603600, 1768208400], ()), (2, ()), ()), ()), ()) := pC (E := E) (f := 100004) rfl (D := vZ) (c := iP1) (by kernel_rfl) (by kernel_rfl) _ 60 (by kernel_rfl)
theorem sC2 : gH.f 1767603600 = some (20458, 32400, ()) := pC (E := E) (f := 128) rfl (D := c128) (c := b128) (by kernel_rfl) (by kernel_rfl) _ 60 (by kernel_rfl)
theorem kD2 : gH.f 1772496000 = some (20515, 0, ()) := pC (E := E) (f := 128) rfl (D := c128) (c := b128) (by kernel_rfl) (by kernel_rfl) _ 60 (by kernel_rfl)
theorem rL1 (d : Int) (h0 : 20458 ≤ d) (hd : d ≤ 20464) (hf : dD.f exP d = some (false, ())) : oA.l1 20464 20515 d 1767603600 1772496000 2 [1767603600] exP = oA.l1 20464 20515 (d + 1) 1767603600 1772496000 2 [1767603600] exP := by
 have hm : mm false 20464 20515 = 20464 := rfl
 conv => lhs; rw [oA.l1_eq]
 simp (disch := omega) only [ss, hm, hf, oA.l2_eq]
theorem kG2 : oA.f exP 1767603600 20458 20464 1767603600 1772496000 (exC []) = some (true, exC [1767603600], ()) := by
 have hm : mm false 20464 20515 = 20464 := rfl
 have h0 : oA.f exP 1767603600 20458 20464 1767603600 1772496000 (exC []) = oA.l1 20464 20515 20458 1767603600 1772496000 2 [] exP := by
  rw [oA.f_eq, sC2, kD2]
  rfl
 rw [h0, oA.l1_eq, hm, dp (by omega), cond_true, hF2]
 simp only [qG2, cond_true]
 rw [lG2]
 simp only [qG2]
 rw [fG2]
 simp only [qG2, dI2]
 rw [oA.l2_eq, cond_false, wr (by omega) (by omega)]
 rw [show (20458 + 1 : Int) = 20459 from rfl, rL1 20459 (by omega) (by omega) hG2, show (20459 + 1 : Int) = 20460 from rfl, rL1 20460 (by omega) (by omega) zE2, show (20460 + 1 : Int) = 20461 from rfl, rL1 20461 (by omega) (by omega) gF2,
  show (20461 + 1 : Int) = 20462 from rfl, rL1 20462 (by omega) (by omega) oF2, show (20462 + 1 : Int) = 20463 from rfl, rL1 20463 (by omega) (by omega) sF2, show (20463 + 1 : Int) = 20464 from rfl, rL1 20464 (by omega) (by omega) qF2, show (20464 + 1 : Int) = 20465 from rfl]
 rw [oA.l1_eq, hm, dn (by omega), cond_false]
theorem xE2 : oA.f exP 1768176000 20465 20471 1767603600 1772496000 (exC [1767603600]) = some (false, exC [1767603600, 1768208400], ()) := by
 have hm : mm false 20471 20515 = 20471 := rfl
 have h0 : oA.f exP 1768176000 20465 20471 1767603600 1772496000 (exC [1767603600]) = oA.l1 20471 20515 20465 1767603600 1772496000 2 [1767603600] exP := by
  rw [oA.f_eq, sC2, kD2]
  rfl
 rw [h0, oA.l1_eq, hm, dp (by omega), cond_true, wF2]
 simp only [qG2, cond_true]
 rw [tF2]
 simp only [qG2]
 rw [qE2]
 simp only [qG2, kI2]
 rw [oA.l2_eq, cond_true]
theorem nB2 : aB.f exP 1767603600 1772496000 (exC []) = some (exC [1767603600, 1768208400], ()) := by
 rw [aB.f_eq, aB.l1_eq, dp (by omega), cond_true]
 rw [show sG.f exP.2.1 1767603600 = _ from tE2]
 simp only [qG2]
 rw [zF2]
 simp only [qG2, cond_true]
 rw [kG2]
 simp only [qG2, dI2]
 rw [aB.l2_eq, cond_false, wr (x := 20464 + 1) (by omega) (by omega), wr (by omega) (by omega), show ((20464 + 1) * 86400 : Int) = 1768176000 from rfl, aB.l1_eq, dp (by omega), cond_true]
 rw [show sG.f exP.2.1 1768176000 = _ from mF2]
 simp only [qG2]
 rw [uF2]
 simp only [qG2, cond_true]
 rw [xE2]
 simp only [qG2, kI2]
 rw [aB.l2_eq, cond_true]
theorem ex_l : uJ.f r0 1767603600 1772496000 4096 = some ([1767603600, 1768208400], 0, ()) := by
 have hw : zC.f exP 1767603600 1772496000 (([], ()), (2, ()), ()) = some ((([1767603600, 1768208400], ()), (2, ()), ()), ()) := by
  rw [zC.f_eq]
  dsimp only
  rw [cond_false, show mm true 1767603600 1767603600 = 1767603600 from rfl, zC.l1_eq]
  dsimp only
  rw [dp (by omega), cond_true, nB2]
  rfl
 have hf : fE.f exP r0 1767603600 1772496000 4097 = some ([1767603600, 1768208400], ()) := by
  rw [fE.f_eq]
  dsimp only
  rw [dp (by omega), cond_true, show mm false 4097 2 = 2 from rfl, fE.l1_eq, hw]
  rfl
 rw [uJ.f_eq, nZ1]
 simp only [qG2, dI2, cond_false]
 rw [dn (by omega), cond_false, dn (by omega), cond_false, wr (by omega) (by omega), show (4096 + 1 : Int) = 4097 from rfl, hf]
 simp (disch := omega) only [ss, vG2, aI2]
abbrev Sp := Int × Int × Unit
def nrm (l : List Sp) : Prop := l.Pairwise (fun a b => a.2.1 < b.1) ∧ ∀ s ∈ l, s.1 < s.2.1
def push (out : List Sp) (s : Sp) : List Sp := match out.getLast? with
 | none => [s]
 | some p => if s.1 ≤ p.2.1 then out.dropLast ++ [(p.1, mm true p.2.1 s.2.1, ())] else out ++ [s]
theorem pW1 (s : Sp) : push [] s = [s] := rfl
theorem sE1 (o : List Sp) (p s : Sp) : push (o ++ [p]) s = if s.1 ≤ p.2.1 then o ++ [(p.1, mm true p.2.1 s.2.1, ())] else o ++ [p] ++ [s] := by simp [push]
theorem qU1 (out : List Sp) (s : Sp) : (push out s).length ≤ out.length + 1 := by
 rcases aY out with rfl | ⟨o, p, rfl⟩
 ·simp [push]
 ·rw [sE1]; split <;> simp
structure Put (out : List Sp) (v : Int) : Prop where
 nrm : nrm out
 lo : ∀ s ∈ out, s.1 ≤ v
theorem vA2 (l : List Sp) (h : l.length ≤ 1000000) (hb : ∀ s ∈ l, (-1000000000000 ≤ s.1 ∧ s.1 ≤ 1000000000000) ∧ -1000000000000 ≤ s.2.1 ∧ s.2.1 ≤ 1000000000000) :
  ∃ r, dC.f l () = some (r, (), ()) ∧ r.Perm l ∧ r.Pairwise (fun x y => x.1 ≤ y.1) := by
 have hall : l.all uN = true := pH2.2 fun d hd => by
  have := hb d hd
  unfold uN Go.GV.small
  simp only [oG2, decide_eq_true_eq]
  omega
 obtain ⟨r, hr⟩ : ∃ r : List Sp, oM uN zf59 cf59 l = some r := by unfold oM; rw [hall]; exact ⟨_, rfl⟩
 have hp : List.Perm (α := Sp) r l := oN yR1 hr
 have hso0 : List.Pairwise (α := Sp) (fun a b => ¬ cf59 b a < 0) r := tS yR1 hr
 refine ⟨r, ?_, hp, hso0.imp fun {a b} h => ?_⟩
 ·rw [dC.f_sem]
  show (bif decide (List.length l ≤ vC) then (oM uN zf59 cf59 l).map (fun ys => (ys, (), ())) else none) = _
  rw [dp (by simp only [vC]; omega), cond_true, hr]
  rfl
 ·have h2 := vK1 b.1 a.1
  have h3 : decide (pW b.1 a.1 < 0) = false := decide_eq_false h
  rw [h3] at h2
  have := of_decide_eq_false h2.symm
  omega
theorem yA2 (inn : List Sp) (hl : inn.length ≤ 1000000) : ∀ (k i : Nat) (out : List Sp), inn.length - i = k → i ≤ inn.length → out.length ≤ i →
  jD.l1 inn inn.length i out = some ((inn.drop i).foldl push out, ()) := by
 have hlim : vC = 17179869184 := rfl
 intro k
 induction k with
 | zero =>
  intro i out hk hi ho
  have e : i = inn.length := by omega
  subst e
  rw [jD.l1_eq]
  simp (disch := omega) only [ss, gI2, List.foldl_nil]
 | succ k ih =>
  intro i out hk hi ho
  have hlt : i < inn.length := by omega
  have hs : ∀ s : Sp, (s.1, s.2.1, ()) = s := fun s => rfl
  rw [jD.l1_eq, iC (0, 0, ()) hlt, List.foldl_cons]
  have hpl := qU1 out (inn.getD i (0, 0, ()))
  rw [← ih (i + 1) (push out (inn.getD i (0, 0, ()))) (by omega) (by omega) (by omega)]
  rcases aY out with rfl | ⟨o, p, rfl⟩
  ·rw [pW1]
   simp (disch := omega) only [ss, aI2, eH2, jD.l2_eq, wG2, eI2, hs, hlim]
   rfl
  ·rw [rI1] at ho
   rw [sE1]
   simp (disch := omega) only [ss, rI1, Int.natCast_add, hJ2, Int.add_sub_cancel, jD.l2_eq, wG2, hs, qR1, xW1, hlim]
   by_cases hc : (inn.getD i (0, 0, ())).1 ≤ p.2.1
   ·simp (disch := omega) only [ss, if_pos hc]
   ·simp (disch := omega) only [ss, if_neg hc]
theorem yU1 (l : List Sp) (hl : l.length ≤ 1000000) : jD.f l = some (l.foldl push [], ()) := by
 have := yA2 l hl _ 0 [] rfl (aH2 _) (zG2 _)
 rw [yH2, eH2] at this
 rw [jD.f_eq]
 exact this
theorem kW1 (a b : List Sp) (hab : a.length = b.length) (hl : a.length ≤ 1000000) : ∀ (k i : Nat), a.length - i = k → i ≤ a.length → gC.l1 a b (i : Int) = some (decide (a.drop i = b.drop i), ()) := by
 intro k
 induction k with
 | zero =>
  intro i hk hi
  have e1 : a.drop i = [] := yI2 (by omega)
  have e2 : b.drop i = [] := yI2 (by omega)
  rw [gC.l1_eq, e1, e2]
  simp (disch := omega) only [ss]
 | succ k ih =>
  intro i hk hi
  have h1 : i < a.length := by omega
  have h2 : i < b.length := by omega
  have iff2 : (a.drop i = b.drop i) ↔ ((a.getD i (0, 0, ())).1 = (b.getD i (0, 0, ())).1 ∧ (a.getD i (0, 0, ())).2.1 = (b.getD i (0, 0, ())).2.1) ∧ a.drop (i + 1) = b.drop (i + 1) := by
   rw [iC ((0, 0, ()) : Sp) h1, iC ((0, 0, ()) : Sp) h2, List.cons.injEq]
   constructor
   ·rintro ⟨q1, q2⟩
    rw [q1]
    exact ⟨⟨rfl, rfl⟩, q2⟩
   ·rintro ⟨⟨q1, q2⟩, q3⟩
    exact ⟨Prod.ext q1 (Prod.ext q2 rfl), q3⟩
  rw [gC.l1_eq]
  by_cases c1 : (a.getD i (0, 0, ())).1 = (b.getD i (0, 0, ())).1
  ·by_cases c2 : (a.getD i (0, 0, ())).2.1 = (b.getD i (0, 0, ())).2.1
   ·simp (disch := omega) only [ss, gC.l2_eq]
    refine (ih (i + 1) (by omega) (by omega)).trans ?_
    rw [decide_eq_decide.2 (iff2.trans ⟨fun q => q.2, fun q => ⟨⟨c1, c2⟩, q⟩⟩)]
   ·simp (disch := omega) only [ss, gC.l2_eq]
    rw [dn (fun q => c2 (iff2.1 q).1.2)]
  ·simp (disch := omega) only [ss, gC.l2_eq]
   rw [dn (fun q => c1 (iff2.1 q).1.1)]
theorem oW1 (a b : List Sp) (hl : a.length ≤ 1000000) : gC.f a b = some (decide (a = b), ()) := by
 rw [gC.f_eq]
 by_cases c : a.length = b.length
 ·have := kW1 a b c hl _ 0 rfl (aH2 _)
  rw [eH2, yH2, yH2] at this
  simp (disch := omega) only [ss]
  exact this
 ·simp (disch := omega) only [ss]
  rw [dn (fun q => c (by rw [q]))]
def spF (U : Int → Int) (du hi : Int) (L : List Int) : List Sp := (L.filter fun t => decide (U t < hi)).map fun t => (U t, U t + du, ())
theorem bA2 {U : Int → Int} {du hi : Int} {L : List Int} {s : Sp} : s ∈ spF U du hi L ↔ ∃ t, t ∈ L ∧ U t < hi ∧ s = (U t, U t + du, ()) := by
 unfold spF
 rw [gH2]
 constructor
 ·rintro ⟨t, h, rfl⟩
  rw [List.mem_filter, decide_eq_true_eq] at h
  exact ⟨t, h.1, h.2, rfl⟩
 ·rintro ⟨t, h1, h2, rfl⟩
  exact ⟨t, List.mem_filter.2 ⟨h1, dp h2⟩, rfl⟩
theorem cZ1 (U : Int → Int) (du hi : Int) (L : List Int) : (spF U du hi L).length ≤ L.length := by
 unfold spF
 rw [yG2]
 exact List.length_filter_le _ _
abbrev Zn : Type := Int × List (Int × Int × Unit) × List (Int × Int × Int × Int × Int × Unit) × Int × Unit
abbrev zZ : Zn := (0, [], [], 0, ())
def okU (Z : Zn) (U : Int → Int) (L : List Int) : Prop := ∀ t ∈ L, aU.f Z t = some (U t, ()) ∧ -500000000000 ≤ U t ∧ U t ≤ 500000000000
section
variable (zs : List Zn) (hi : Int) (L : List Int) (U : Int → Int)
theorem tV1 (m : Int × Int × Int × Bool × (Int × Int × Int × Int × Int × Bool × List Int × List Int × List Int × List Int × List (Int × Int × Unit) × List Int × List Int × List Int × List Int × Unit) × List Int × List Int × Unit) (hz : 0 ≤ m.1 ∧ m.1 < (zs.length : Int)) (hl : L.length ≤ 1000000) (hd : 0 ≤ m.2.2.1 ∧ m.2.2.1 ≤ 2678400) (hU : okU (zs.getD m.1.toNat zZ) U L) : ∀ (k i : Nat) (acc : List Sp), L.length - i = k → i ≤ L.length → acc.length ≤ i →
  qC.l2 zs hi L (L.length : Int) (i : Int) m acc = (dC.f (acc ++ spF U m.2.2.1 hi (L.drop i)) ()).bind fun t7 => (jD.f t7.1).bind fun t8 => some (t8.1, 0, ()) := by
 have hlim : vC = 17179869184 := rfl
 intro k
 induction k with
 | zero =>
  intro i acc hk hi' ha
  have e : i = L.length := by omega
  subst e
  rw [qC.l2_eq, gI2]
  simp (disch := omega) only [ss, show spF U m.2.2.1 hi [] = [] from rfl, kH2]
 | succ k ih =>
  intro i acc hk hi' ha
  have hlt : i < L.length := by omega
  obtain ⟨u1, u2, u3⟩ := hU (L.getD i 0) (iD 0 hlt)
  have hst : spF U m.2.2.1 hi (L.drop i) = (if U (L.getD i 0) < hi then [(U (L.getD i 0), U (L.getD i 0) + m.2.2.1, ())] else []) ++ spF U m.2.2.1 hi (L.drop (i + 1)) := by
   rw [iC 0 hlt]
   unfold spF
   rw [List.filter_cons]
   by_cases c : U (L.getD i 0) < hi
   ·rw [dp c, if_pos rfl, if_pos c]; rfl
   ·rw [dn c, if_neg (by simp), if_neg c]; rfl
  rw [qC.l2_eq, hst]
  simp (disch := omega) only [ss, u1]
  by_cases c : U (L.getD i 0) < hi
  ·simp (disch := omega) only [ss, if_pos c, wG2, hlim]
   have := ih (i + 1) (acc ++ [(U (L.getD i 0), U (L.getD i 0) + m.2.2.1, ())]) (by omega) (by omega) (by simp; omega)
   rw [hH2] at this
   exact this
  ·simp (disch := omega) only [ss, if_neg c, eI2]
   exact ih (i + 1) acc (by omega) (by omega) (by omega)
theorem qP1 (m : Int × Int × Int × Bool × (Int × Int × Int × Int × Int × Bool × List Int × List Int × List Int × List Int × List (Int × Int × Unit) × List Int × List Int × List Int × List Int × Unit) × List Int × List Int × Unit) (hz : 0 ≤ m.1 ∧ m.1 < (zs.length : Int)) (hl : L.length ≤ 1000000) (hd : 0 ≤ m.2.2.1 ∧ m.2.2.1 ≤ 2678400) (hU : okU (zs.getD m.1.toNat zZ) U L) :
  ∃ r : List Sp, r.Perm (spF U m.2.2.1 hi L) ∧ r.Pairwise (fun x y => x.1 ≤ y.1) ∧ qC.l2 zs hi L (L.length : Int) 0 m [] = some (r.foldl push [], 0, ()) := by
 have h := tV1 zs hi L U m hz hl hd hU _ 0 [] rfl (aH2 _) (zG2 _)
 have hsl := cZ1 U m.2.2.1 hi L
 obtain ⟨r, h1, h2, h3⟩ := vA2 (spF U m.2.2.1 hi L) (by omega) fun s hs => by
  obtain ⟨t, ht, _, rfl⟩ := bA2.1 hs
  have := (hU t ht).2
  dsimp only
  omega
 refine ⟨r, h2, h3, ?_⟩
 have hrl := h2.length_eq
 rw [yH2, eI2, h1, eH2] at h
 rw [h]
 simp only [qG2]
 rw [yU1 r (by omega)]
 rfl
end
def xO (l : List Int) : Prop := l.Pairwise (· < ·)
theorem rN {x : Int} {l : List Int} : xO (x :: l) ↔ (∀ y, y ∈ l → x < y) ∧ xO l := vH2
theorem oF1 : ∀ {a b : List Int}, xO a → xO b → (∀ x, x ∈ a ↔ x ∈ b) → a = b
 | [], [], _, _, _ => rfl
 | [], y :: b, _, _, h => absurd ((h y).2 (uG2 ..)) (by simp)
 | x :: a, [], _, _, h => absurd ((h x).1 (uG2 ..)) (by simp)
 | x :: a, y :: b, ha, hb, h => by
  have pa := rN.1 ha
  have pb := rN.1 hb
  have e : x = y := by
   rcases sG2.1 ((h x).1 (uG2 ..)) with e | e
   ·exact e
   ·rcases sG2.1 ((h y).2 (uG2 ..)) with f | f
    ·exact f.symm
    ·have := pb.1 x e
     have := pa.1 y f
     omega
  subst e
  have : a = b := by
   refine oF1 pa.2 pb.2 fun z => ⟨fun hz => ?_, fun hz => ?_⟩
   ·rcases sG2.1 ((h z).1 (tG2 _ hz)) with e | e
    ·have := pa.1 z hz
     omega
    ·exact e
   ·rcases sG2.1 ((h z).2 (tG2 _ hz)) with e | e
    ·have := pb.1 z hz
     omega
    ·exact e
  rw [this]
theorem iP : ∀ {l : List Int}, xO l → ∀ {i j : Nat}, i < j → j < l.length → l.getD i 0 < l.getD j 0
 | [], _, _, _, _, h => absurd h (by simp)
 | x :: l, hr, 0, 0, h, _ => absurd h (by omega)
 | x :: l, hr, 0, j + 1, _, h => by
  have hj : j < l.length := by simpa using h
  rw [List.getD_cons_zero, dK2, yG 0 hj]
  exact (rN.1 hr).1 _ (uJ2 hj)
 | x :: l, hr, i + 1, 0, h, _ => absurd h (by omega)
 | x :: l, hr, i + 1, j + 1, h, h2 => by
  rw [dK2, dK2]
  exact iP (rN.1 hr).2 (by omega) (by simpa using h2)
theorem tB1 {l : List Int} {x : Int} (h : x ∈ l) : ∃ i, i < l.length ∧ l.getD i 0 = x := by
 obtain ⟨i, hi, e⟩ := List.mem_iff_getElem.1 h
 exact ⟨i, hi, by rw [yG 0 hi, e]⟩
theorem tT1 {l : List Int} {i : Nat} (h : i < l.length) : l.getD i 0 ∈ l := by
 rw [yG 0 h]
 exact uJ2 h
end Go.GV.YtidgapgbnlcjgaaGreatDoor
