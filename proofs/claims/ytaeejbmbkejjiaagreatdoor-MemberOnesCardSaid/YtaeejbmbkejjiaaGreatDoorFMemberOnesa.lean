/-
Part of the words that MemberOnes is proved with: no statement of its own, no conditions.
-/
import Derived.Test.YtaeejbmbkejjiaaGreatDoorZ11
set_option linter.unusedVariables false
set_option linter.unusedSimpArgs false
namespace Go.GV.YtaeejbmbkejjiaaGreatDoor
open Go.Proofs
theorem ones_end (r : Rl) (s x : Int) (G : List Int) (p q : Int) (o raw : Bool) (n : Nat) (hn : n = G.length) (hl : G.length ≤ 1000000) (h1 : days_Period.f r s x = some (q, o, ())) (h2 : member_Raw.f r s x = some (raw, ()))
  (h3 : raw = true → o = true) (h4 : o = true → q = p → (raw = true ↔ x ∈ G)) : voklaw7_MemberOnes.l2 s x G p (n : Int) r = some (true, ()) := by
 subst hn
 rw [voklaw7_MemberOnes.l2_eq, h1, h2, first_true, has_spec G x hl]
 rw [dn (show ¬ (G.length : Int) < (G.length : Int) by omega)]
 simp only [cond_false, Option.bind_some, cond_true]
 cases o with
 | false =>
  cases raw with
  | false => rfl
  | true => exact absurd (h3 rfl) (by simp)
 | true =>
  rw [Bool.not_true, cond_false]
  by_cases c : q = p
  ·have h4 := h4 rfl c
   rw [dp c, Bool.not_true, cond_false]
   cases raw with
   | true => rw [dp (h4.1 rfl)]; rfl
   | false => rw [dn (fun z => by have := h4.2 z; cases this)]; rfl
  ·rw [dn c, Bool.not_false, cond_true]
   cases raw <;> rfl
theorem ones_loop (r : Rl) (s x : Int) (G : List Int) (p : Int) (hG : Rise G) (hl : G.length ≤ 1000000) (h1 : ∀ y, y ∈ G → days_Period.f r s y = some (p, true, ())) (h2 : ∀ y, y ∈ G → member_Raw.f r s y = some (true, ()))
  (hend : voklaw7_MemberOnes.l2 s x G p (G.length : Int) r = some (true, ())) : ∀ (k i : Nat), G.length - i = k → i ≤ G.length → voklaw7_MemberOnes.l2 s x G p (i : Int) r = some (true, ()) := by
 intro k
 induction k with
 | zero =>
  intro i hk hi
  have e : i = G.length := by omega
  rw [e]
  exact hend
 | succ k ih =>
  intro i hk hi
  have hlt : i < G.length := by omega
  have ih' := ih (i + 1) (by omega) (by omega)
  rw [Int.natCast_add, Int.natCast_one] at ih'
  have hmem := get_mem hlt
  rw [voklaw7_MemberOnes.l2_eq, Int.toNat_natCast, h1 _ hmem, h2 _ hmem]
  by_cases c : i = 0
  ·subst c
   simp (disch := omega) only [ss, cond_true, cond_false, Option.bind_some, voklaw7_MemberOnes.l3_eq]
   exact ih'
  ·have hw : IntKind.i64.wrap ((i : Int) - 1) = ((i - 1 : Nat) : Int) := by rw [wr (by omega) (by omega)]; omega
   have hr := rise_get hG (show i - 1 < i by omega) hlt
   rw [hw, Int.toNat_natCast]
   simp (disch := omega) only [ss, cond_true, cond_false, Option.bind_some, voklaw7_MemberOnes.l3_eq]
   exact ih'
theorem MemberOnes_pure (r : Rl) (s t x : Int) : voklaw7_MemberOnes.f r s t x = some (true, ()) := by
 have l1t : ∀ p, voklaw7_MemberOnes.l1 s x [] p true r = some (true, ()) := fun p => by rw [voklaw7_MemberOnes.l1_eq, cond_true, first_true]; rfl
 obtain ⟨b, hb, hsh⟩ := light_some r s
 rw [voklaw7_MemberOnes.f_eq, first_true, hb]
 simp only [Option.bind_some, Bool.not_true, cond_false]
 cases b with
 | false => rfl
 | true =>
  rw [Bool.not_true, cond_false]
  have hr := hsh rfl
  obtain ⟨bm, hm⟩ := may_some r hr
  by_cases hh : bm = true ∧ inT s
  ·obtain ⟨hb1, hs⟩ := hh
   subst hb1
   obtain ⟨f, iv, ct, un, wkst, en, mo, we, yd, md, dy, ho, mi, se, po, ⟨⟩⟩ := r
   obtain ⟨P, hMk, hP⟩ := plan_ok f iv ct un wkst en mo we yd md dy ho mi se po s hr hm hs
   obtain ⟨hS1, hS2⟩ := qSet hP hMk t
   by_cases ht : inT t
   ·obtain ⟨G, G1, G2, G3⟩ := hS1 ht
    have g := G3 2000 (by omega) (by omega)
    rw [show ((2000 : Nat) : Int) = 2000 from rfl] at g
    rw [g, pPer hP hMk t ht]
    by_cases c : G.length ≤ 2000
    ·rw [if_pos c]
     simp only [Option.bind_some]
     rw [decide_true, Bool.not_true, cond_false, voklaw7_MemberOnes.l1_eq, cond_false]
     have hx : ∃ q o, days_Period.f (f, iv, ct, un, wkst, en, mo, we, yd, md, dy, ho, mi, se, po, ()) s x = some (q, o, ()) ∧ (ind (rawP iv s (fitsB f wkst mo we yd md dy s) (per f wkst we) (hoursL f ho s) (minsL f mi s) (secsL f se s) x) = true → o = true) ∧ (o = true → q = per f wkst we t - per f wkst we s → (ind (rawP iv s (fitsB f wkst mo we yd md dy s) (per f wkst we) (hoursL f ho s) (minsL f mi s) (secsL f se s) x) = true ↔ x ∈ G)) := by
      by_cases hx : inT x
      ·refine ⟨_, _, pPer hP hMk x hx, fun _ => rfl, fun _ e => ?_⟩
       rw [ind_iff, G2]
       exact ⟨fun q => ⟨q, by omega⟩, fun q => q.1⟩
      ·refine ⟨_, _, pPer_no hP hMk x hx, fun q => absurd (ind_iff.1 q).1 hx, fun q => by cases q⟩
     obtain ⟨q, o, x1, x2, x3⟩ := hx
     have hend := ones_end (f, iv, ct, un, wkst, en, mo, we, yd, md, dy, ho, mi, se, po, ()) s x G (per f wkst we t - per f wkst we s) q o _ G.length rfl (by omega) x1 (qRaw hP hMk x) x2 x3
     have := ones_loop (f, iv, ct, un, wkst, en, mo, we, yd, md, dy, ho, mi, se, po, ()) s x G (per f wkst we t - per f wkst we s) G1 (by omega) (fun y hy => by
       have := (G2 y).1 hy
       rw [pPer hP hMk y this.1.1, this.2]) (fun y hy => by rw [qRaw hP hMk y, ind_t ((G2 y).1 hy).1]) hend G.length 0 (by omega) (Nat.zero_le _)
     rw [Int.natCast_zero] at this
     exact this
    ·rw [if_neg c]
     simp only [Option.bind_some]
     rw [dn (show ¬ (10 : Int) = 0 by omega), Bool.not_false, cond_true, l1t]
   ·have g := hS2 ht 2000
    rw [show ((2000 : Nat) : Int) = 2000 from rfl] at g
    rw [g, pPer_no hP hMk t ht]
    simp only [Option.bind_some]
    rw [dn (show ¬ (1 : Int) = 0 by omega), Bool.not_false, cond_true, l1t]
  ·obtain ⟨P, hMk⟩ := plan_no r s bm hm hh
   rw [noSet hMk, days_Period.f_eq, make_no r s bm hm hh]
   simp only [Option.bind_some, Bool.not_false, cond_true]
   rw [dn (show ¬ (1 : Int) = 0 by omega), Bool.not_false, cond_true, l1t]
end Go.GV.YtaeejbmbkejjiaaGreatDoor
