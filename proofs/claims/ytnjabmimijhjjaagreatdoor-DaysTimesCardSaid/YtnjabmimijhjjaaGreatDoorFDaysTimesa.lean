/-
Part of the words that DaysTimes is proved with: no statement of its own, no conditions.
-/
import Derived.Test.YtnjabmimijhjjaaGreatDoorZ10
set_option linter.unusedVariables false
set_option linter.unusedSimpArgs false
namespace Go.GV.YtnjabmimijhjjaaGreatDoor
open Go.Proofs
def upTo (n : Nat) : List Int := (List.range n).map fun (j : Nat) => (j : Int)
theorem upTo_succ (n : Nat) : upTo (n + 1) = upTo n ++ [(n : Int)] := by unfold upTo; rw [List.range_succ, List.map_append]; rfl
theorem upTo_len (n : Nat) : (upTo n).length = n := by unfold upTo; simp
theorem upTo_get (n j : Nat) (h : j < n) : (upTo n).getD j 0 = (j : Int) := by
 unfold upTo
 rw [getD_eq 0 (by simpa using h)]
 simp
theorem upTo_mem (n : Nat) (x : Int) (h0 : 0 ≤ x) (h1 : x < n) : x ∈ upTo n := by
 unfold upTo
 exact List.mem_map.2 ⟨x.toNat, List.mem_range.2 (by omega), by omega⟩
def okL (x : List Int) (hi : Int) : Prop := (∀ j, j < x.length → adjI x j) ∧ 1 ≤ x.length ∧ x.length ≤ 1000 ∧ 0 ≤ x.getD 0 0 ∧ x.getD (x.length - 1) 0 ≤ hi
theorem some_l1 (all : Nat) (h : all ≤ 1000) : ∀ (k i : Nat), all - i = k → i ≤ all → days_some.l1 (all : Int) (i : Int) (upTo i) = some (upTo all, ()) := by
 have hlim : limit = 17179869184 := rfl
 intro k
 induction k with
 | zero =>
  intro i hk hil
  have e : i = all := by omega
  subst e
  rw [days_some.l1_eq]
  simp (disch := omega) only [ss, cond_true, cond_false, Option.bind_some]
 | succ k ih =>
  intro i hk hil
  have hlen := upTo_len i
  have := ih (i + 1) (by omega) (by omega)
  rw [upTo_succ, Int.natCast_add, Int.natCast_one] at this
  rw [days_some.l1_eq]
  simp (disch := omega) only [ss, cond_true, cond_false, Option.bind_some, hlen, List.length_singleton, hlim]
  exact this
theorem some_spec (l : List Int) (single : Bool) (n hi : Int) (all : Nat) (hw : wi l 0 hi true) (hn : 0 ≤ n ∧ n ≤ hi) (ha : (all : Int) = hi + 1) (hb : all ≤ 100) :
  ∃ x, days_some.f l single n (all : Int) = some (x, ()) ∧ okL x hi ∧ (l = [] → n ∈ x) := by
 have hlim : limit = 17179869184 := rfl
 have h60 := hw.2
 rw [days_some.f_eq]
 by_cases c : l = []
 ·subst c
  have hnil : (([] : List Int).length : Int) = 0 := rfl
  cases single with
  | true =>
   refine ⟨[n], by simp (disch := omega) only [ss, cond_true, cond_false, Option.bind_some, hnil], ⟨fun j hj q => ?_, by simp, by simp, hn.1, hn.2⟩, fun _ => List.mem_singleton.2 rfl⟩
   simp at hj
   omega
  | false =>
   have hl := some_l1 all (by omega) all 0 (by omega) (Nat.zero_le _)
   have hlen := upTo_len all
   rw [Int.natCast_zero] at hl
   refine ⟨upTo all, ?_, ⟨fun j hj q => ?_, by omega, by omega, ?_, ?_⟩, fun _ => upTo_mem all n hn.1 (by omega)⟩
   ·simp (disch := omega) only [ss, cond_true, cond_false, Option.bind_some, hnil]
    exact hl
   ·rw [upTo_get all j (by omega), upTo_get all (j - 1) (by omega)]
    omega
   ·rw [upTo_get all 0 (by omega)]
    omega
   ·rw [hlen, upTo_get all (all - 1) (by omega)]
    omega
 ·have hp : (l.length : Int) > 0 := ne_len.1 c
  have hC : slices_Clone_int_int.f l = some (l, ()) := by
   rw [slices_Clone_int_int.f_sem]
   show (bif decide (l.length ≤ limit) then some (l, ()) else none) = _
   simp (disch := omega) only [ss, cond_true, cond_false, Option.bind_some, hlim]
  refine ⟨l, by simp (disch := omega) only [ss, cond_true, cond_false, Option.bind_some, hC], ⟨fun j hj => (hw.1 j hj).2, by omega, by omega, (hw.1 0 (by omega)).1.1, (hw.1 (l.length - 1) (by omega)).1.2.1⟩, fun q => absurd q c⟩
theorem rises_true (x : List Int) (hi : Int) (h : okL x hi) : vokref_Rises.f x = some (true, ()) := by
 obtain ⟨b, h1, h2⟩ := vrises_spec x (by have := h.2.2.1; omega)
 rw [h1, h2.2 h.1]
theorem DaysTimes_pure (r : Rl) (s : Int) : voklaw6_DaysTimes.f r s = some (true, ()) := by
 obtain ⟨b, hb, hsh⟩ := few_some r
 rw [voklaw6_DaysTimes.f_eq, first_true, hb]
 simp only [Option.bind_some, Bool.not_true, cond_false]
 cases b with
 | false => rfl
 | true =>
  rw [Bool.not_true, cond_false]
  have hr := hsh rfl
  obtain ⟨bm, hm⟩ := may_some r hr
  have l1t : voklaw6_DaysTimes.l1 s [] [] [] true r = some (true, ()) := by
   have hnil : (([] : List Int).length : Int) = 0 := rfl
   rw [voklaw6_DaysTimes.l1_eq, cond_true, first_true]
   simp (disch := omega) only [ss, cond_true, cond_false, Option.bind_some, hnil]
  by_cases hh : bm = true ∧ inT s
  ·obtain ⟨hbm, ht⟩ := hh
   subst hbm
   have hS : stamp_May.f s = some (true, ()) := by rw [(may_mo s).1, dp ht]
   obtain ⟨y0, m0, d0, _, e0, _⟩ := date_spec (s / 86400) (inT_day ht).1 (inT_day ht).2
   have hD := (mday_spec s (by unfold inT at ht; omega) (by unfold inT at ht; omega)).1
   have hp := may_p hr hm
   have hMk := make_ok r s hm ht y0 m0 d0 e0
   obtain ⟨f, iv, ct, un, wkst, en, mo, we, yd, md, dy, ho, mi, se, po, ⟨⟩⟩ := r
   dsimp only at hp
   obtain ⟨sec, hsec⟩ : ∃ x, x = s % 86400 := ⟨_, rfl⟩
   have hs1 : 0 ≤ sec ∧ sec ≤ 86399 := by omega
   rw [← hsec] at hD hMk
   obtain ⟨x1, g1, o1, i1⟩ := some_spec ho (decide (f ≤ 4)) (sec / 3600) 23 24 hp.2.1.2.2.2.2.1 (by omega) (by omega) (by omega)
   obtain ⟨x2, g2, o2, i2⟩ := some_spec mi (decide (f ≤ 5)) (sec / 60 % 60) 59 60 hp.2.1.2.2.2.2.2.1 (by omega) (by omega) (by omega)
   obtain ⟨x3, g3, o3, i3⟩ := some_spec se (decide (f ≤ 6)) (sec % 60) 59 60 hp.2.1.2.2.2.2.2.2.1 (by omega) (by omega) (by omega)
   have g1 : days_some.f ho (decide (f ≤ 4)) (sec / 3600) 24 = some (x1, ()) := g1
   have g2 : days_some.f mi (decide (f ≤ 5)) (sec / 60 % 60) 60 = some (x2, ()) := g2
   have g3 : days_some.f se (decide (f ≤ 6)) (sec % 60) 60 = some (x3, ()) := g3
   have t1 : IntKind.i64.wrap (Int.tdiv sec 3600) = sec / 3600 := by rw [tdn hs1.1, wr (by omega) (by omega)]
   have t2 : Int.tmod (IntKind.i64.wrap (Int.tdiv sec 60)) 60 = sec / 60 % 60 := by rw [tdn hs1.1, wr (by omega) (by omega), tmn (by omega)]
   have t3 : Int.tmod sec 60 = sec % 60 := tmn hs1.1 _
   have hT : days_Times.f (f, iv, ct, un, wkst, en, mo, we, yd, md, dy, ho, mi, se, po, ()) s = some (x1, x2, x3, ()) := by
    rw [days_Times.f_eq, hMk]
    simp (disch := omega) only [ss, cond_true, cond_false, Option.bind_some, days_Plan_Times.f_eq, t1, t2, t3, g1, g2, g3]
   have r1 := rises_true x1 23 o1
   have r2 := rises_true x2 59 o2
   have r3 := rises_true x3 59 o3
   obtain ⟨_, a1, a2, a3, a4⟩ := o1
   obtain ⟨_, b1, b2, b3, b4⟩ := o2
   obtain ⟨_, c1, c2, c3, c4⟩ := o3
   have l2 : voklaw6_DaysTimes.l2 x1 x2 x3 sec true (f, iv, ct, un, wkst, en, mo, we, yd, md, dy, ho, mi, se, po, ()) = some (true, ()) := by
    have k1 : ∀ h : ho = [], vokref_Has.f x1 (sec / 3600) = some (true, ()) := fun h => by rw [has_spec x1 _ (by omega), dp (i1 h)]
    have k2 : ∀ h : mi = [], vokref_Has.f x2 (sec / 60 % 60) = some (true, ()) := fun h => by rw [has_spec x2 _ (by omega), dp (i2 h)]
    have k3 : ∀ h : se = [], vokref_Has.f x3 (sec % 60) = some (true, ()) := fun h => by rw [has_spec x3 _ (by omega), dp (i3 h)]
    have fin3 : (bif decide ((se.length : Int) > 0) then some (true, ()) else bif !decide ((60 : Int) = 0) then (vokref_Has.f x3 (Int.tmod sec 60)).bind fun t => some (t.1, ()) else none) = some (true, ()) := by
     by_cases c : se = []
     ·have : ¬ (se.length : Int) > 0 := fun q => ne_len.2 q c
      simp (disch := omega) only [ss, cond_true, cond_false, Option.bind_some, t3, k3 c]
     ·have := ne_len.1 c
      simp (disch := omega) only [ss, cond_true, cond_false, Option.bind_some]
    have fin2 : (bif decide ((mi.length : Int) > 0) then (bif decide ((se.length : Int) > 0) then some (true, ()) else bif !decide ((60 : Int) = 0) then (vokref_Has.f x3 (Int.tmod sec 60)).bind fun t => some (t.1, ()) else none) else bif !decide ((60 : Int) = 0) then bif !decide ((60 : Int) = 0) then (vokref_Has.f x2 (Int.tmod (IntKind.i64.wrap (Int.tdiv sec 60)) 60)).bind fun t => bif t.1 then (bif decide ((se.length : Int) > 0) then some (true, ()) else bif !decide ((60 : Int) = 0) then (vokref_Has.f x3 (Int.tmod sec 60)).bind fun t => some (t.1, ()) else none) else some (false, ()) else none else none) = some (true, ()) := by
     by_cases c : mi = []
     ·have hn : ¬ (mi.length : Int) > 0 := fun q => ne_len.2 q c
      rw [dn hn, cond_false, dn (show ¬ (60 : Int) = 0 by omega), t2, k2 c]
      exact fin3
     ·have hn := ne_len.1 c
      rw [dp hn, cond_true]
      exact fin3
    rw [voklaw6_DaysTimes.l2_eq, first_true]
    simp only [Option.bind_some, cond_true]
    by_cases c : ho = []
    ·have hn : ¬ (ho.length : Int) > 0 := fun q => ne_len.2 q c
     rw [dn hn, cond_false, dn (show ¬ (3600 : Int) = 0 by omega), t1, k1 c]
     exact fin2
    ·have hn := ne_len.1 c
     rw [dp hn, cond_true]
     exact fin2
   have n1 : (IntKind.i64.wrap ((x1.length : Int) - 1)).toNat = x1.length - 1 := by rw [wr (by omega) (by omega)]; omega
   have n2 : (IntKind.i64.wrap ((x2.length : Int) - 1)).toNat = x2.length - 1 := by rw [wr (by omega) (by omega)]; omega
   have n3 : (IntKind.i64.wrap ((x3.length : Int) - 1)).toNat = x3.length - 1 := by rw [wr (by omega) (by omega)]; omega
   rw [hT]
   simp only [Option.bind_some]
   rw [hm]
   simp only [Option.bind_some, Bool.not_true, cond_false]
   rw [hS]
   simp only [Option.bind_some, Bool.not_true]
   rw [voklaw6_DaysTimes.l1_eq, cond_false, hD]
   simp only [Option.bind_some]
   rw [r1, r2, r3]
   simp (disch := omega) only [ss, cond_true, cond_false, Option.bind_some, n1, n2, n3, ge_iff_le]
   exact l2
  ·have hMk := make_no r s bm hm hh
   have hT : days_Times.f r s = some ([], [], [], ()) := by
    rw [days_Times.f_eq, hMk]
    simp (disch := omega) only [ss, cond_true, cond_false, Option.bind_some]
   rw [hT]
   simp only [Option.bind_some]
   rw [hm]
   simp only [Option.bind_some]
   cases bm with
   | false => rw [Bool.not_false, cond_true, l1t]
   | true =>
    have hS : stamp_May.f s = some (false, ()) := by rw [(may_mo s).1, dn (show ¬ inT s from fun q => hh ⟨rfl, q⟩)]
    rw [Bool.not_true, cond_false, hS]
    simp only [Option.bind_some, Bool.not_false]
    exact l1t
end Go.GV.YtnjabmimijhjjaaGreatDoor
