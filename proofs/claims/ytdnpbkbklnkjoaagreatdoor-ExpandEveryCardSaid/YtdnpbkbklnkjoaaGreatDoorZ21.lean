/-
Part of the words that the laws of this seat are proved with: no statement of its own, no conditions.
-/
import Derived.Test.YtdnpbkbklnkjoaaGreatDoorZ20
set_option linter.unusedVariables false
set_option linter.unusedSimpArgs false
namespace Go.GV.YtdnpbkbklnkjoaaGreatDoor
open Go.Proofs
noncomputable def belR (r : Rl) (s : Int) : Int → Prop :=
 belP r.2.1 r.2.2.2.1 r.2.2.2.2.2.1 r.2.2.2.2.2.2.2.2.2.2.2.2.2.2.1 s (fitsB r.1 r.2.2.2.2.1 r.2.2.2.2.2.2.1 r.2.2.2.2.2.2.2.1 r.2.2.2.2.2.2.2.2.1 r.2.2.2.2.2.2.2.2.2.1 r.2.2.2.2.2.2.2.2.2.2.1 s) (per r.1 r.2.2.2.2.1 r.2.2.2.2.2.2.2.1) (hoursL r.1 r.2.2.2.2.2.2.2.2.2.2.2.1 s) (minsL r.1 r.2.2.2.2.2.2.2.2.2.2.2.2.1 s) (secsL r.1 r.2.2.2.2.2.2.2.2.2.2.2.2.2.1 s)
noncomputable def memR (r : Rl) (s e : Int) : List Int := memL (belR r s) s e
noncomputable def LS (r : Rl) (s e : Int) : List Int := if r.2.2.1 > 0 then (memR r s e).take r.2.2.1.toNat else memR r s e
def okE (s e : Int) : Prop := inT s ∧ inT e ∧ (s < e → e - s ≤ 316224000)
theorem plan_R (r : Rl) (hr : shortR r) (hm : rule_May.f r = some (true, ())) (s : Int) (hs : inT s) : ∃ P : PlT, member_Make.f r s = some (P, true, ()) ∧
  PlanOK P r s (fitsB r.1 r.2.2.2.2.1 r.2.2.2.2.2.2.1 r.2.2.2.2.2.2.2.1 r.2.2.2.2.2.2.2.2.1 r.2.2.2.2.2.2.2.2.2.1 r.2.2.2.2.2.2.2.2.2.2.1 s) (per r.1 r.2.2.2.2.1 r.2.2.2.2.2.2.2.1) (hoursL r.1 r.2.2.2.2.2.2.2.2.2.2.2.1 s) (minsL r.1 r.2.2.2.2.2.2.2.2.2.2.2.2.1 s) (secsL r.1 r.2.2.2.2.2.2.2.2.2.2.2.2.2.1 s) := by
 obtain ⟨f, iv, ct, un, wkst, en, mo, we, yd, md, dy, ho, mi, se, po, ⟨⟩⟩ := r
 exact plan_ok f iv ct un wkst en mo we yd md dy ho mi se po s hr hm hs
theorem fits_ok {r : Rl} {s e : Int} {P : PlT} (hMk : member_Make.f r s = some (P, true, ())) (h : okE s e) : expand_fits.f r s e = some (P, true, ()) := by
 obtain ⟨h1, h2, h3⟩ := h
 rw [expand_fits.f_eq, hMk, (may_mo e).1]
 unfold inT at h1 h2
 by_cases c : e > s
 ·simp (disch := omega) only [ss, cond_true, cond_false, Option.bind_some, expand_fits.l1_eq]
 ·simp (disch := omega) only [ss, cond_true, cond_false, Option.bind_some, expand_fits.l1_eq]
theorem fits_no {r : Rl} {s e : Int} {P : PlT} {b : Bool} (hMk : member_Make.f r s = some (P, b, ())) (hb : b = true → inT s) (h : ¬ (b = true ∧ okE s e)) : ∃ Q, expand_fits.f r s e = some (Q, false, ()) := by
 rw [expand_fits.f_eq, hMk, (may_mo e).1]
 simp only [Option.bind_some]
 cases b with
 | false => exact ⟨_, by rw [Bool.not_false, cond_true, expand_fits.l1_eq, cond_true]⟩
 | true =>
  have h1 := hb rfl
  rw [Bool.not_true, cond_false]
  by_cases c2 : inT e
  ·unfold inT at h1 c2
   have c3 : s < e ∧ e - s > 316224000 := by
    refine Classical.byContradiction fun q => h ⟨rfl, h1, c2, fun z => ?_⟩
    omega
   rw [dp c2, Bool.not_true, cond_false, dp (show e > s from c3.1), cond_true, wr (by omega) (by omega), dp c3.2, expand_fits.l1_eq, cond_true]
   exact ⟨_, rfl⟩
  ·unfold inT at c2
   rw [dn c2, Bool.not_false, cond_true, expand_fits.l1_eq, cond_true]
   exact ⟨_, rfl⟩
theorem may_num {r : Rl} (hr : shortR r) (hm : rule_May.f r = some (true, ())) : (0 ≤ r.2.2.1 ∧ r.2.2.1 ≤ 4096) ∧ (r.2.2.2.2.2.1 = true → inT r.2.2.2.1) ∧ (1 ≤ r.2.1 ∧ r.2.1 ≤ 1000) ∧ (1 ≤ r.1 ∧ r.1 ≤ 7) := by
 have hp := (may_p hr hm).1
 unfold numP at hp
 exact ⟨⟨hp.1.2.2.2.2.1, hp.1.2.2.2.2.2.1⟩, fun q => (hp.2.1 q).1, ⟨hp.1.2.2.1, hp.1.2.2.2.1⟩, ⟨hp.1.1, hp.1.2.1⟩⟩
section
variable {r : Rl} {s e : Int} (hr : shortR r) (hm : rule_May.f r = some (true, ())) (ho : okE s e)
include hr hm ho
theorem first_val {P : PlT} (hMk : member_Make.f r s = some (P, true, ())) (M : Int) (h1 : 1 ≤ M) (h2 : M ≤ 100000) : expand_first.f P r s e M = some ((memR r s e).take (if r.2.2.1 > 0 then min M r.2.2.1 else M).toNat, ()) := by
 obtain ⟨P', hMk', hP⟩ := plan_R r hr hm s ho.1
 have e1 : P' = P := by
  rw [hMk] at hMk'
  exact (congrArg Prod.fst (Option.some.inj hMk')).symm
 subst e1
 have hn := may_num hr hm
 obtain ⟨g1, g2, g3⟩ := ho
 unfold inT at g1 g2
 have key : ∀ K : Int, 1 ≤ K → K ≤ 100000 → expand_first.l1 s e P' K [] = some ((memR r s e).take K.toNat, ()) := by
  intro K k1 k2
  have hw := walkA hP (K := K) hn.2.1 s e (by omega) (by omega) [] (by unfold invA; simp; omega)
  have hrun := run_F K.toNat (memR r s e) [] (by simp; omega)
  rw [show ((K.toNat : Nat) : Int) = K by omega] at hrun
  rw [expand_first.l1_eq]
  show ((member_Plan_Walk.f P' s e (clA K [])).bind fun t1 => some (t1.1.1.1, ())) = _
  rw [hw]
  simp only [Option.bind_some]
  show some ((run (yesF K) [] (memR r s e)).1, ()) = _
  rw [hrun]
  rfl
 rw [expand_first.f_eq]
 by_cases c : r.2.2.1 > 0
 ·rw [dp c, cond_true, if_pos c, mm_min]
  exact key _ (by omega) (by omega)
 ·rw [dn c, cond_false, if_neg c]
  exact key _ h1 h2
theorem list_ok (most : Int) (h1 : 1 ≤ most) (h2 : most ≤ 4096) : expand_List.f r s e most = some (if ((LS r s e).length : Int) > most then ([], 10, ()) else (LS r s e, 0, ())) := by
 obtain ⟨P, hMk, hP⟩ := plan_R r hr hm s ho.1
 have hn := may_num hr hm
 have hF := first_val hr hm ho hMk (most + 1) (by omega) (by omega)
 have hw : IntKind.i64.wrap (most + 1) = most + 1 := wr (by omega) (by omega)
 rw [expand_List.f_eq, fits_ok hMk ho]
 simp only [Option.bind_some]
 rw [Bool.not_true, cond_false, dn (show ¬ most < 1 by omega), cond_false, dn (show ¬ most > 4096 by omega), cond_false, hw, hF]
 simp only [Option.bind_some]
 unfold LS
 generalize memR r s e = M
 by_cases c : r.2.2.1 > 0
 ·rw [if_pos c, if_pos c]
  by_cases c2 : ((M.take r.2.2.1.toNat).length : Int) > most
  ·rw [if_pos c2, dp, cond_true]
   rw [List.length_take] at c2 ⊢
   omega
  ·have e2 : M.take (min (most + 1) r.2.2.1).toNat = M.take r.2.2.1.toNat := by
    rw [List.length_take] at c2
    by_cases c3 : r.2.2.1 ≤ most
    ·rw [show min (most + 1) r.2.2.1 = r.2.2.1 by omega]
    ·rw [List.take_of_length_le (by omega), List.take_of_length_le (by omega)]
   rw [if_neg c2, e2, dn c2, cond_false]
 ·rw [if_neg c, if_neg c]
  by_cases c2 : (M.length : Int) > most
  ·rw [if_pos c2, dp, cond_true]
   rw [List.length_take]
   omega
  ·rw [if_neg c2, List.take_of_length_le (by omega), dn c2, cond_false]
theorem next_l1 (L : List Int) (hl : L.length ≤ 1000000) (after : Int) : ∀ (n i : Nat), L.length - i = n → i ≤ L.length → expand_Next.l1 L (L.length : Int) (i : Int) after = some (match (L.drop i).find? (fun x => decide (x > after)) with | some t => (t, true, ()) | none => (0, false, ())) := by
 have _ := hr
 have _ := hm
 have _ := ho
 intro n
 induction n with
 | zero =>
  intro i hn hi
  have e1 : i = L.length := by omega
  subst e1
  rw [expand_Next.l1_eq, List.drop_length]
  simp (disch := omega) only [ss, cond_true, cond_false, Option.bind_some]
  rfl
 | succ n ih =>
  intro i hn hi
  have hlt : i < L.length := by omega
  have ih' := ih (i + 1) (by omega) (by omega)
  rw [Int.natCast_add, Int.natCast_one] at ih'
  rw [expand_Next.l1_eq, Int.toNat_natCast, drop_getD' 0 hlt, List.find?_cons]
  generalize L.getD i 0 = x
  by_cases c : x > after
  ·rw [dp c]
   simp (disch := omega) only [ss, cond_true, cond_false, Option.bind_some]
  ·rw [dn c]
   simp (disch := omega) only [ss, cond_true, cond_false, Option.bind_some]
   exact ih'
theorem next_ok (after : Int) : expand_Next.f r s after e = some (match (LS r s e).find? (fun x => decide (x > after)) with | some t => (t, true, ()) | none => (0, false, ())) := by
 obtain ⟨P, hMk, hP⟩ := plan_R r hr hm s ho.1
 have hn := may_num hr hm
 rw [expand_Next.f_eq, fits_ok hMk ho]
 simp only [Option.bind_some]
 rw [Bool.not_true, cond_false]
 unfold LS
 by_cases c : r.2.2.1 > 0
 ·rw [if_pos c, dp c, cond_true, first_val hr hm ho hMk r.2.2.1 (by omega) (by omega)]
  simp only [Option.bind_some]
  rw [if_pos c, show min r.2.2.1 r.2.2.1 = r.2.2.1 by omega]
  have := next_l1 hr hm ho ((memR r s e).take r.2.2.1.toNat) (by rw [List.length_take]; omega) after _ 0 rfl (Nat.zero_le _)
  rw [Int.natCast_zero, List.drop_zero] at this
  exact this
 ·have ho' := ho
  obtain ⟨g1, g2, g3⟩ := ho'
  unfold inT at g1 g2
  rw [if_neg c, dn c, cond_false, mm_min, mm_max]
  obtain ⟨f0, hf0⟩ : ∃ f0, max s (min after e) = f0 := ⟨_, rfl⟩
  rw [hf0]
  have hw := walkB hP (K := after) hn.2.1 f0 e (by omega) (by omega) (0, false) trivial
  have hfind : (memL (belR r s) f0 e).find? (fun x => decide (x > after)) = (memR r s e).find? (fun x => decide (x > after)) := by
   unfold memR
   by_cases cs : s ≤ e
   ·rw [← memL_split (belR r s) (a := s) (b := f0) (c := e) (by omega) (by omega), List.find?_append]
    have : (memL (belR r s) s f0).find? (fun x => decide (x > after)) = none := by
     rw [List.find?_eq_none]
     intro x hx
     have := (mem_memL _).1 hx
     rw [decide_eq_true_eq]
     omega
    rw [this]
    rfl
   ·rw [memL_nil _ (by omega), memL_nil _ (by omega)]
  show ((member_Plan_Walk_i1.f P f0 e (clB after (0, false))).bind fun t3 => some (t3.1.2.1.1, t3.1.2.2.1.1, ())) = _
  rw [hw]
  simp only [Option.bind_some]
  show some ((run (yesN after) (0, false) (memL (belR r s) f0 e)).1.1, (run (yesN after) (0, false) (memL (belR r s) f0 e)).1.2, ()) = _
  rw [run_N, ← hfind]
  cases (memL (belR r s) f0 e).find? (fun x => decide (x > after)) <;> rfl
end
theorem exp_no {r : Rl} {s e : Int} {bm : Bool} (hr : shortR r) (hm : rule_May.f r = some (bm, ())) (h : ¬ (bm = true ∧ okE s e)) : (∀ most, expand_List.f r s e most = some ([], 1, ())) ∧ ∀ after, expand_Next.f r s after e = some (0, false, ()) := by
 have hQ : ∃ Q, expand_fits.f r s e = some (Q, false, ()) := by
  by_cases c : bm = true ∧ inT s
  ·obtain ⟨rfl, hs⟩ := c
   obtain ⟨P, hMk, hP⟩ := plan_R r hr hm s hs
   exact fits_no hMk (fun _ => hs) h
  ·obtain ⟨P, hMk⟩ := plan_no r s bm hm c
   exact fits_no hMk (fun q => by cases q) (fun q => by cases q.1)
 obtain ⟨Q, hQ⟩ := hQ
 constructor
 ·intro most
  rw [expand_List.f_eq, hQ]
  rfl
 ·intro after
  rw [expand_Next.f_eq, hQ]
  rfl
theorem list_any (r : Rl) (hr : shortR r) (s e most : Int) (h1 : 1 ≤ most) (h2 : most ≤ 4096) : ∃ L cd, expand_List.f r s e most = some (L, cd, ()) ∧ (¬ cd = 0 → L = []) ∧
  (cd = 0 → rule_May.f r = some (true, ()) ∧ okE s e ∧ L = LS r s e ∧ (L.length : Int) ≤ most) ∧ (rule_May.f r = some (true, ()) → okE s e → ((LS r s e).length : Int) ≤ most → cd = 0) := by
 obtain ⟨bm, hm⟩ := may_some r hr
 by_cases c : bm = true ∧ okE s e
 ·obtain ⟨rfl, ho⟩ := c
  have hl := list_ok hr hm ho most h1 h2
  by_cases c2 : ((LS r s e).length : Int) > most
  ·rw [if_pos c2] at hl
   exact ⟨[], 10, hl, fun _ => rfl, fun q => by omega, fun _ _ q => by omega⟩
  ·rw [if_neg c2] at hl
   exact ⟨_, 0, hl, fun q => absurd rfl q, fun _ => ⟨hm, ho, rfl, by omega⟩, fun _ _ _ => rfl⟩
 ·have hl := (exp_no hr hm c).1 most
  refine ⟨[], 1, hl, fun _ => rfl, fun q => by omega, fun q q1 => ?_⟩
  rw [hm] at q
  exact absurd ⟨congrArg Prod.fst (Option.some.inj q), q1⟩ c
theorem has_R {r : Rl} (hr : shortR r) (hm : rule_May.f r = some (true, ())) {s : Int} (hs : inT s) (t : Int) : member_Has.f r s t = some (ind (belR r s t), ()) := by
 obtain ⟨P, hMk, hP⟩ := plan_R r hr hm s hs
 exact pHas hP hMk t
theorem mem_memR {r : Rl} {s e t : Int} : t ∈ memR r s e ↔ belR r s t ∧ t < e := by
 unfold memR
 rw [mem_memL]
 exact ⟨fun q => ⟨q.1, q.2.2⟩, fun q => ⟨q.1, q.1.2.1, q.2⟩⟩
theorem rise_memR (r : Rl) (s e : Int) : Rise (memR r s e) := rise_memL _ _ _
theorem rise_LS (r : Rl) (s e : Int) : Rise (LS r s e) := by
 unfold LS
 split
 ·exact rise_take (rise_memR r s e) _
 ·exact rise_memR r s e
theorem LS_sub {r : Rl} {s e t : Int} (h : t ∈ LS r s e) : belR r s t ∧ s ≤ t ∧ t < e := by
 have h : t ∈ memR r s e := by
  unfold LS at h
  split at h
  ·exact List.mem_of_mem_take h
  ·exact h
 have := mem_memR.1 h
 exact ⟨this.1, this.1.2.1, this.2⟩
theorem LS_len {r : Rl} {s e : Int} (h : 0 < r.2.2.1) : ((LS r s e).length : Int) ≤ r.2.2.1 := by
 unfold LS
 rw [if_pos h, List.length_take]
 omega
theorem ints_l1 (a : List Int) (hl : a.length ≤ 1000000) : ∀ (k i : Nat), a.length - i = k → vokref_Ints.l1 a a i = some (true, ()) := by
 intro k
 induction k with
 | zero =>
  intro i hk
  rw [vokref_Ints.l1_eq]
  simp (disch := omega) only [ss, cond_true, cond_false, Option.bind_some]
 | succ k ih =>
  intro i hk
  have h := ih (i + 1) (by omega)
  rw [Int.natCast_add, Int.natCast_one] at h
  rw [vokref_Ints.l1_eq]
  simp (disch := omega) only [ss, cond_true, cond_false, Option.bind_some]
  exact h
theorem ints_self (a : List Int) (hl : a.length ≤ 1000000) : vokref_Ints.f a a = some (true, ()) := by
 have h := ints_l1 a hl a.length 0 (by omega)
 rw [Int.natCast_zero] at h
 rw [vokref_Ints.f_eq]
 simp (disch := omega) only [ss, cond_true, cond_false, Option.bind_some]
 exact h
theorem light_some (r : Rl) (s e : Int) : ∃ b, voklaw8_Light.f r s e = some (b, ()) ∧ (b = true → shortR r) := by
 obtain ⟨b, hb, hsh⟩ := few_some r
 have hl1 : b = true → ∃ b', voklaw8_Light.l1 s e true r = some (b', ()) ∧ (b' = true → shortR r) := fun h => ⟨b, by rw [voklaw8_Light.l1_eq, cond_true, hb]; rfl, hsh⟩
 rw [voklaw8_Light.f_eq, hb]
 simp only [Option.bind_some]
 cases b with
 | false =>
  rw [Bool.not_false, cond_true, voklaw8_Light.l1_eq, cond_true, hb]
  exact ⟨false, rfl, fun q => by cases q⟩
 | true =>
  have hr := hsh rfl
  obtain ⟨bm, hm⟩ := may_some r hr
  have h1 := hl1 rfl
  rw [Bool.not_true, cond_false, hm]
  simp only [Option.bind_some]
  cases bm with
  | false => rw [Bool.not_false, cond_true]; exact h1
  | true =>
   rw [Bool.not_true, cond_false, (may_mo s).1, (may_mo e).1]
   simp only [Option.bind_some]
   by_cases c1 : inT s
   ·by_cases c2 : inT e
    ·unfold inT at c1 c2
     rw [dp c1, Bool.not_true, cond_false, dp c2, Bool.not_true, cond_false]
     by_cases c3 : e ≤ s
     ·rw [dp c3]; exact h1
     ·obtain ⟨k, hk⟩ := cost_some r s (IntKind.i64.wrap (IntKind.i64.wrap (Int.tdiv (IntKind.i64.wrap (e - s)) 86400) + 2)) hr
      rw [dn c3, voklaw8_Light.l1_eq, cond_false, hk]
      exact ⟨_, rfl, fun _ => hr⟩
    ·unfold inT at c1 c2
     rw [dp c1, Bool.not_true, cond_false, dn c2, Bool.not_false, cond_true]
     exact h1
   ·unfold inT at c1
    rw [dn c1, Bool.not_false, cond_true]
    exact h1
end Go.GV.YtdnpbkbklnkjoaaGreatDoor
namespace Go.GV.YtdnpbkbklnkjoaaGreatDoor
open Go.Proofs
abbrev eRule (f n ct : Int) : Rl := (f, n, ct, 0, 0, false, [], [], [], [], [], [], [], [], [], ())
theorem e_short (f n ct : Int) : shortR (eRule f n ct) := by unfold shortR short; simp
theorem wi_non (lo hi : Int) (z : Bool) : wi [] lo hi z := ⟨fun j hj => absurd hj (by simp), Nat.zero_le _⟩
theorem l7_non (f iv ct un wkst : Int) (en : Bool) (mo we yd md : List Int) (dy : List Dy) : rule_May.l5 (f, iv, ct, un, wkst, en, mo, we, yd, md, dy, [], [], [], [], ()) = some (true, ()) := by
 have hnil : (([] : List Int).length : Int) = 0 := rfl
 have hm1 : mm true (0 : Int) 1 = 1 := rfl
 have e : IntKind.i64.wrap (IntKind.i64.wrap (1 * 1) * 1) = 1 := by decide
 rw [rule_May.l5_eq]
 by_cases c4 : f > 4
 ·simp (disch := omega) only [ss, cond_true, cond_false, Option.bind_some, hnil, rule_May.l6_eq, rule_May.l7_eq, hm1, e]
 ·simp (disch := omega) only [ss, cond_true, cond_false, Option.bind_some, hnil, rule_May.l6_eq, rule_May.l7_eq, hm1, e]
theorem e_may {f n ct : Int} (hf : 1 ≤ f ∧ f ≤ 7) (h : 1 ≤ n ∧ n ≤ 1000) (hc : 0 ≤ ct ∧ ct ≤ 4096) : rule_May.f (eRule f n ct) = some (true, ()) := by
 have g := may_gate f n ct 0 0 false [] [] [] [] [] [] [] [] [] (e_short f n ct)
 rw [g.1 ⟨⟨⟨hf.1, hf.2, h.1, h.2, hc.1, hc.2, by omega, by omega⟩, (fun q => by cases q), fun _ => rfl⟩, ⟨wi_non _ _ _, wi_non _ _ _, wi_non _ _ _, wi_non _ _ _, wi_non _ _ _, wi_non _ _ _, wi_non _ _ _, wi_non _ _ _, ⟨⟨fun j hj => absurd hj (by simp), Nat.zero_le _⟩, fun j hj => absurd hj (by simp)⟩⟩, by simp, by simp, by simp⟩]
 exact l7_non _ _ _ _ _ _ _ _ _ _ _
theorem e_fits {f : Int} (hf : 3 ≤ f) (s n : Int) (h0 : -719162 ≤ s / 86400 ∧ s / 86400 ≤ 2932896) (hn : -719162 ≤ n ∧ n ≤ 2932896) : fitsB f 0 [] [] [] [] [] s n = true ↔ (f = 3 → wk n = wk (s / 86400)) := by
 obtain ⟨y0, m0, d0, e0, _⟩ := date_spec (s / 86400) h0.1 h0.2
 obtain ⟨y, m, d, e, _⟩ := date_spec n hn.1 hn.2
 unfold fitsB
 rw [ind_iff]
 constructor
 ·rintro ⟨y0', m0', d0', y', m', d', g0, g, q⟩ h3
  unfold fitP stP at q
  obtain ⟨_, _, _, _, q, _⟩ := q
  rcases q with q | ⟨q, _⟩ | ⟨_, q⟩
  ·simp at q
  ·simp at q
  ·rcases q with q | q | q | q
   ·omega
   ·omega
   ·exact q.2
   ·omega
 ·intro q
  refine ⟨y0, m0, d0, y, m, d, e0, e, ?_⟩
  unfold fitP hasP wdP stP wkP
  by_cases c : f = 3
  ·exact ⟨.inl rfl, .inl rfl, .inl rfl, .inl rfl, .inr (.inr ⟨rfl, .inr (.inr (.inl ⟨c, q c⟩))⟩), .inl rfl⟩
  ·exact ⟨.inl rfl, .inl rfl, .inl rfl, .inl rfl, .inr (.inr ⟨rfl, .inr (.inr (.inr ⟨by omega, by omega, c⟩))⟩), .inl rfl⟩
def stp (f : Int) : Int := if f = 3 then 604800 else if f = 4 then 86400 else if f = 5 then 3600 else 1
theorem tmod_dvd (a n : Int) : Int.tmod a n = 0 ↔ n ∣ a := (Int.dvd_iff_tmod_eq_zero ..).symm
theorem e_bel {f n ct : Int} (hf : f = 3 ∨ f = 4 ∨ f = 5 ∨ f = 7) (hn : 1 ≤ n ∧ n ≤ 1000) (hc : 0 ≤ ct ∧ ct ≤ 4096) {s : Int} (hs : inT s) (x : Int) : belR (eRule f n ct) s x ↔ inT x ∧ s ≤ x ∧ ∃ u, x - s = stp f * u ∧ n ∣ u := by
 obtain ⟨P, _, hP⟩ := plan_R (eRule f n ct) (e_short f n ct) (e_may (by omega) hn hc) s hs
 have hm := mem_tod (h := hoursL f [] s) hP.om.2.1 hP.oc.2.1 (x % 86400)
 have hb : belR (eRule f n ct) s x ↔ rawP n s (fitsB f 0 [] [] [] [] [] s) (per f 0 []) (hoursL f [] s) (minsL f [] s) (secsL f [] s) x ∧ s ≤ x := by
  constructor
  ·intro q
   exact ⟨q.1, q.2.1⟩
  ·intro q
   exact ⟨q.1, q.2, (fun z => by cases z), .inl rfl⟩
 rw [hb]
 unfold rawP inP
 rw [hm, tmod_dvd]
 have hsd := inT_day hs
 have stop : ¬ inT x → (((inT x ∧ (x % 86400 / 3600 ∈ hoursL f [] s ∧ x % 86400 / 60 % 60 ∈ minsL f [] s ∧ x % 86400 % 60 ∈ secsL f [] s) ∧ n ∣ per f 0 [] x - per f 0 [] s ∧ fitsB f 0 [] [] [] [] [] s (x / 86400) = true) ∧ s ≤ x) ↔ (inT x ∧ s ≤ x ∧ ∃ u, x - s = stp f * u ∧ n ∣ u)) := fun c => ⟨fun q => absurd q.1.1 c, fun q => absurd q.1 c⟩
 by_cases cx : inT x
 ·have hxd := inT_day cx
  rw [e_fits (by omega) s _ hsd hxd]
  rcases hf with rfl | rfl | rfl | rfl
  ·have a1 : hoursL 3 [] s = [s % 86400 / 3600] := rfl
   have a2 : minsL 3 [] s = [s % 86400 / 60 % 60] := rfl
   have a3 : secsL 3 [] s = [s % 86400 % 60] := rfl
   have hp : ∀ t, per 3 0 [] t = (t / 86400 + 3 - 0) / 7 := fun t => (per_eq (.inl ⟨by omega, .inr (.inr (.inr (.inl ⟨rfl, rfl⟩)))⟩)).symm
   rw [a1, a2, a3, hp, hp, List.mem_singleton, List.mem_singleton, List.mem_singleton]
   unfold stp wk
   rw [if_pos rfl]
   constructor
   ·rintro ⟨⟨_, ⟨q1, q2, q3⟩, q4, q5⟩, q6⟩
    have q5 := q5 rfl
    exact ⟨cx, q6, _, by omega, q4⟩
   ·rintro ⟨_, q1, u, q2, q3⟩
    refine ⟨⟨cx, ⟨by omega, by omega, by omega⟩, ?_, fun _ => by omega⟩, q1⟩
    rw [show (x / 86400 + 3 - 0) / 7 - (s / 86400 + 3 - 0) / 7 = u by omega]
    exact q3
  ·have a1 : hoursL 4 [] s = [s % 86400 / 3600] := rfl
   have a2 : minsL 4 [] s = [s % 86400 / 60 % 60] := rfl
   have a3 : secsL 4 [] s = [s % 86400 % 60] := rfl
   have hp : ∀ t, per 4 0 [] t = t / 86400 := fun t => (per_eq (.inl ⟨by omega, .inr (.inr (.inr (.inr ⟨rfl, rfl⟩)))⟩)).symm
   rw [a1, a2, a3, hp, hp, List.mem_singleton, List.mem_singleton, List.mem_singleton]
   unfold stp
   rw [if_neg (by omega), if_pos rfl]
   constructor
   ·rintro ⟨⟨_, ⟨q1, q2, q3⟩, q4, q5⟩, q6⟩
    exact ⟨cx, q6, _, by omega, q4⟩
   ·rintro ⟨_, q1, u, q2, q3⟩
    refine ⟨⟨cx, ⟨by omega, by omega, by omega⟩, ?_, fun z => by omega⟩, q1⟩
    rw [show x / 86400 - s / 86400 = u by omega]
    exact q3
  ·have a1 : hoursL 5 [] s = upTo 24 := rfl
   have a2 : minsL 5 [] s = [s % 86400 / 60 % 60] := rfl
   have a3 : secsL 5 [] s = [s % 86400 % 60] := rfl
   have hp : ∀ t, per 5 0 [] t = t / 3600 := fun t => (per_eq (.inr (.inl ⟨rfl, rfl⟩))).symm
   rw [a1, a2, a3, hp, hp, mem_upTo, List.mem_singleton, List.mem_singleton]
   unfold stp
   rw [if_neg (by omega), if_neg (by omega), if_pos rfl]
   constructor
   ·rintro ⟨⟨_, ⟨q1, q2, q3⟩, q4, q5⟩, q6⟩
    exact ⟨cx, q6, _, by omega, q4⟩
   ·rintro ⟨_, q1, u, q2, q3⟩
    refine ⟨⟨cx, ⟨by omega, by omega, by omega⟩, ?_, fun z => by omega⟩, q1⟩
    rw [show x / 3600 - s / 3600 = u by omega]
    exact q3
  ·have a1 : hoursL 7 [] s = upTo 24 := rfl
   have a2 : minsL 7 [] s = upTo 60 := rfl
   have a3 : secsL 7 [] s = upTo 60 := rfl
   have hp : ∀ t, per 7 0 [] t = t := fun t => (per_eq (.inr (.inr (.inr ⟨rfl, rfl⟩)))).symm
   rw [a1, a2, a3, hp, hp, mem_upTo, mem_upTo, mem_upTo]
   unfold stp
   rw [if_neg (by omega), if_neg (by omega), if_neg (by omega)]
   constructor
   ·rintro ⟨⟨_, _, q4, q5⟩, q6⟩
    exact ⟨cx, q6, _, by omega, q4⟩
   ·rintro ⟨_, q1, u, q2, q3⟩
    refine ⟨⟨cx, ⟨by omega, by omega, by omega⟩, ?_, fun z => by omega⟩, q1⟩
    rw [show x - s = u by omega]
    exact q3
 ·exact stop cx
def AP (s q : Int) (k : Nat) : List Int := (List.range k).map fun (j : Nat) => s + q * (j : Int)
theorem AP_len (s q : Int) (k : Nat) : (AP s q k).length = k := by unfold AP; rw [List.length_map, List.length_range]
theorem AP_get (s q : Int) (k i : Nat) (h : i < k) : (AP s q k).getD i 0 = s + q * (i : Int) := by
 unfold AP
 rw [map_getD _ _ i 0 0 (by rw [List.length_range]; exact h), List.getD_eq_getElem?_getD, List.getElem?_range h]
 rfl
theorem AP_rise {s q : Int} (hq : 0 < q) (k : Nat) : Rise (AP s q k) := by
 unfold AP Rise
 rw [List.pairwise_map]
 refine List.Pairwise.imp (fun {i j} h => ?_) List.pairwise_lt_range
 have : q * (i : Int) < q * (j : Int) := Int.mul_lt_mul_of_pos_left (by omega) hq
 omega
theorem AP_take (s q : Int) (k i : Nat) (h : i ≤ k) : (AP s q k).take i = AP s q i := by
 unfold AP
 rw [← List.map_take, List.take_range, Nat.min_eq_left h]
theorem e_mem {f n ct : Int} (hf : f = 3 ∨ f = 4 ∨ f = 5 ∨ f = 7) (hn : 1 ≤ n ∧ n ≤ 1000) (hc : 0 ≤ ct ∧ ct ≤ 4096) {s : Int} (hs : inT s) (k : Nat) (he : s + stp f * n * (k : Int) ≤ 253402300799) : memR (eRule f n ct) s (s + stp f * n * (k : Int)) = AP s (stp f * n) k := by
 have hq : 0 < stp f * n := by
  refine Int.mul_pos ?_ (by omega)
  unfold stp
  split
  ·omega
  ·split
   ·omega
   ·split <;> omega
 refine rise_ext (rise_memR _ _ _) (AP_rise hq k) fun x => ?_
 rw [mem_memR, e_bel hf hn hc hs]
 unfold AP
 rw [List.mem_map]
 constructor
 ·rintro ⟨⟨_, q1, u, q2, v, q3⟩, q4⟩
  rw [q3, ← Int.mul_assoc] at q2
  have hv : 0 ≤ v := by
   refine Classical.byContradiction fun c => ?_
   have : stp f * n * v ≤ stp f * n * (-1) := Int.mul_le_mul_of_nonneg_left (by omega) (by omega)
   omega
  have hv2 : v < k := Int.lt_of_mul_lt_mul_left (a := stp f * n) (by omega) (by omega)
  refine ⟨v.toNat, List.mem_range.2 (by omega), ?_⟩
  rw [show ((v.toNat : Nat) : Int) = v by omega]
  omega
 ·rintro ⟨j, hj, e⟩
  have hj := List.mem_range.1 hj
  have h1 : stp f * n * (j : Int) < stp f * n * (k : Int) := Int.mul_lt_mul_of_pos_left (by omega) hq
  have h2 : 0 ≤ stp f * n * (j : Int) := Int.mul_nonneg (by omega) (by omega)
  unfold inT at hs ⊢
  refine ⟨⟨by omega, by omega, n * (j : Int), ?_, ⟨_, rfl⟩⟩, by omega⟩
  rw [← Int.mul_assoc]
  omega
end Go.GV.YtdnpbkbklnkjoaaGreatDoor
namespace Go.GV.YtdnpbkbklnkjoaaGreatDoor
open Go.Proofs
abbrev dRule : Rl := eRule 4 1 3
abbrev sRule : Rl := eRule 7 1 0
set_option maxRecDepth 1000000 in
theorem parse1 : rule_Parse.f ⟨#[70, 82, 69, 81, 61, 68, 65, 73, 76, 89, 59, 67, 79, 85, 78, 84, 61, 51]⟩ = some (dRule, 0, 0, ()) := rn_closed (E := E) (f := 25) rfl (D := c25) (c := b25) (by kernel_rfl) (by kernel_rfl) _ 400 (by kernel_rfl)
set_option maxRecDepth 1000000 in
theorem parse2 : rule_Parse.f ⟨#[70, 82, 69, 81, 61, 83, 69, 67, 79, 78, 68, 76, 89]⟩ = some (sRule, 0, 0, ()) := rn_closed (E := E) (f := 25) rfl (D := c25) (c := b25) (by kernel_rfl) (by kernel_rfl) _ 400 (by kernel_rfl)
set_option maxRecDepth 1000000 in
theorem sp1 : stamp_Parse.f ⟨#[50, 48, 50, 54, 48, 49, 48, 49, 84, 48, 48, 48, 48, 48, 48]⟩ = some (1767225600, 0, ()) := rn_closed (E := E) (f := 26) rfl (D := c26) (c := b26) (by kernel_rfl) (by kernel_rfl) _ 400 (by kernel_rfl)
set_option maxRecDepth 1000000 in
theorem sp2 : stamp_Parse.f ⟨#[50, 48, 50, 55, 48, 49, 48, 49, 84, 48, 48, 48, 48, 48, 48]⟩ = some (1798761600, 0, ()) := rn_closed (E := E) (f := 26) rfl (D := c26) (c := b26) (by kernel_rfl) (by kernel_rfl) _ 400 (by kernel_rfl)
theorem ok1 : okE 1767225600 1798761600 := by unfold okE inT; omega
theorem list1 : expand_List.f dRule 1767225600 1798761600 10 = some ([1767225600, 1767312000, 1767398400], 0, ()) := by
 have hm := e_may (f := 4) (n := 1) (ct := 3) (by omega) (by omega) (by omega)
 have h := list_ok (e_short 4 1 3) hm ok1 10 (by omega) (by omega)
 have e := e_mem (f := 4) (n := 1) (ct := 3) (by omega) (by omega) (by omega) ok1.1 365 (by unfold stp; simp)
 have eq : (1767225600 : Int) + stp 4 * 1 * ((365 : Nat) : Int) = 1798761600 := by decide
 rw [eq] at e
 have hl : LS (eRule 4 1 3) 1767225600 1798761600 = [1767225600, 1767312000, 1767398400] := by
  unfold LS
  rw [if_pos (show (3 : Int) > 0 by omega), e]
  show (AP 1767225600 (stp 4 * 1) 365).take 3 = _
  rw [AP_take _ _ _ _ (by omega)]
  decide
 rw [hl] at h
 exact h
theorem list2 : expand_List.f sRule 1767225600 1798761600 10 = some ([], 10, ()) := by
 have hm := e_may (f := 7) (n := 1) (ct := 0) (by omega) (by omega) (by omega)
 have h := list_ok (e_short 7 1 0) hm ok1 10 (by omega) (by omega)
 have e := e_mem (f := 7) (n := 1) (ct := 0) (by omega) (by omega) (by omega) ok1.1 31536000 (by unfold stp; simp)
 have eq : (1767225600 : Int) + stp 7 * 1 * ((31536000 : Nat) : Int) = 1798761600 := by unfold stp; simp
 rw [eq] at e
 have hl : (LS (eRule 7 1 0) 1767225600 1798761600).length = 31536000 := by
  unfold LS
  rw [if_neg (show ¬ (0 : Int) > 0 by omega), e, AP_len]
 rw [hl, if_pos (by omega)] at h
 exact h
theorem first_true : voklaw8_first.f = some (true, ()) := by
 rw [voklaw8_first.f_eq, parse1, parse2, sp1, sp2]
 simp only [Option.bind_some]
 rw [list1, list2]
 simp only [Option.bind_some]
 rw [show IntKind.i64.wrap (1767225600 + 86400) = 1767312000 by rw [wr (by omega) (by omega)]; rfl, show IntKind.i64.wrap (1767225600 + 172800) = 1767398400 by rw [wr (by omega) (by omega)]; rfl, ints_self _ (by simp)]
 rfl
end Go.GV.YtdnpbkbklnkjoaaGreatDoor
namespace Go.GV.YtdnpbkbklnkjoaaGreatDoor
open Go.Proofs
theorem may_ct {f iv wkst : Int} {mo we yd md : List Int} {dy : List Dy} {ho mi se po : List Int} (hr : short mo we yd md dy ho mi se po) {c1 c2 : Int} (h2 : 0 ≤ c2 ∧ c2 ≤ 4096) (hm : rule_May.f (f, iv, c1, 0, wkst, false, mo, we, yd, md, dy, ho, mi, se, po, ()) = some (true, ())) :
  rule_May.f (f, iv, c2, 0, wkst, false, mo, we, yd, md, dy, ho, mi, se, po, ()) = some (true, ()) := by
 have g1 := may_gate f iv c1 0 wkst false mo we yd md dy ho mi se po hr
 have g2 := may_gate f iv c2 0 wkst false mo we yd md dy ho mi se po hr
 have hp := may_p (r := (f, iv, c1, 0, wkst, false, mo, we, yd, md, dy, ho, mi, se, po, ())) hr hm
 dsimp only at hp
 rw [g1.1 hp] at hm
 obtain ⟨⟨⟨q1, q2, q3, q4, _, _, q7, q8⟩, _, q9⟩, q⟩ := hp
 rw [g2.1 ⟨⟨⟨q1, q2, q3, q4, h2.1, h2.2, q7, q8⟩, (fun z => by cases z), q9⟩, q⟩]
 rw [rule_May.l5_eq] at hm ⊢
 simp only [rule_May.l6_eq, rule_May.l7_eq] at hm ⊢
 exact hm
theorem take_pre {α : Type} (A B : List α) (n : Nat) : (A ++ B).take n = A.take n ++ B.take (n - A.length) := List.take_append
theorem LS_front {r : Rl} {s e e' : Int} (h : s ≤ e') (h2 : e' ≤ e) : ∃ R, LS r s e = LS r s e' ++ R ∧ ∀ x, x ∈ R → e' ≤ x := by
 have hsp : memR r s e = memR r s e' ++ memL (belR r s) e' e := (memL_split (belR r s) h h2).symm
 unfold LS
 rw [hsp]
 by_cases c : r.2.2.1 > 0
 ·rw [if_pos c, if_pos c, take_pre]
  exact ⟨_, rfl, fun x hx => ((mem_memL _).1 (List.mem_of_mem_take hx)).2.1⟩
 ·rw [if_neg c, if_neg c]
  exact ⟨_, rfl, fun x hx => ((mem_memL _).1 hx).2.1⟩
theorem find_after : ∀ {L : List Int}, Rise L → ∀ (i : Nat), i < L.length → L.find? (fun x => decide (x > L.getD i 0)) = if i + 1 < L.length then some (L.getD (i + 1) 0) else none
 | [], _, i, h => absurd h (by simp)
 | [x], _, 0, _ => by simp
 | x :: y :: L, hr, 0, _ => by
  have := (rise_cons.1 hr).1 y (List.mem_cons_self ..)
  rw [List.find?_cons, List.getD_cons_zero, dn (show ¬ x > x by omega), List.find?_cons, dp this, if_pos (by simp)]
  rfl
 | x :: L, hr, i + 1, h => by
  have hi : i < L.length := by simpa using h
  have h1 := (rise_cons.1 hr).1 _ (get_mem hi)
  have ih := find_after (rise_cons.1 hr).2 i hi
  rw [List.find?_cons, List.getD_cons_succ, dn (show ¬ x > L.getD i 0 by omega), ih, List.getD_cons_succ, List.length_cons]
  by_cases c : i + 1 < L.length
  ·rw [if_pos c, if_pos (by omega)]
  ·rw [if_neg c, if_neg (by omega)]
theorem find_first : ∀ {L : List Int} {a : Int}, 0 < L.length → (∀ x, x ∈ L → a < x) → L.find? (fun x => decide (x > a)) = some (L.getD 0 0)
 | [], _, h, _ => absurd h (by simp)
 | x :: L, a, _, h => by
  rw [List.find?_cons, dp (h x (List.mem_cons_self ..))]
  rfl
end Go.GV.YtdnpbkbklnkjoaaGreatDoor
