/-
Part of the words that the laws of this seat are proved with: no statement of its own, no conditions.
-/
import Derived.Test.YtdnpbkbklnkjoaaGreatDoorZ18
set_option linter.unusedVariables false
set_option linter.unusedSimpArgs false
namespace Go.GV.YtdnpbkbklnkjoaaGreatDoor
open Go.Proofs
def Rise (l : List Int) : Prop := l.Pairwise (· < ·)
theorem rise_cons {x : Int} {l : List Int} : Rise (x :: l) ↔ (∀ y, y ∈ l → x < y) ∧ Rise l := List.pairwise_cons
theorem rise_nil : Rise [] := List.Pairwise.nil
theorem rise_app {a b : List Int} : Rise (a ++ b) ↔ Rise a ∧ Rise b ∧ ∀ x, x ∈ a → ∀ y, y ∈ b → x < y := List.pairwise_append
theorem rise_ext : ∀ {a b : List Int}, Rise a → Rise b → (∀ x, x ∈ a ↔ x ∈ b) → a = b
 | [], [], _, _, _ => rfl
 | [], y :: b, _, _, h => absurd ((h y).2 (List.mem_cons_self ..)) (by simp)
 | x :: a, [], _, _, h => absurd ((h x).1 (List.mem_cons_self ..)) (by simp)
 | x :: a, y :: b, ha, hb, h => by
  have pa := rise_cons.1 ha
  have pb := rise_cons.1 hb
  have e : x = y := by
   rcases List.mem_cons.1 ((h x).1 (List.mem_cons_self ..)) with e | e
   ·exact e
   ·rcases List.mem_cons.1 ((h y).2 (List.mem_cons_self ..)) with f | f
    ·exact f.symm
    ·have := pb.1 x e
     have := pa.1 y f
     omega
  subst e
  have : a = b := by
   refine rise_ext pa.2 pb.2 fun z => ⟨fun hz => ?_, fun hz => ?_⟩
   ·rcases List.mem_cons.1 ((h z).1 (List.mem_cons_of_mem _ hz)) with e | e
    ·have := pa.1 z hz
     omega
    ·exact e
   ·rcases List.mem_cons.1 ((h z).2 (List.mem_cons_of_mem _ hz)) with e | e
    ·have := pb.1 z hz
     omega
    ·exact e
  rw [this]
theorem rise_get : ∀ {l : List Int}, Rise l → ∀ {i j : Nat}, i < j → j < l.length → l.getD i 0 < l.getD j 0
 | [], _, _, _, _, h => absurd h (by simp)
 | x :: l, hr, 0, 0, h, _ => absurd h (by omega)
 | x :: l, hr, 0, j + 1, _, h => by
  have hj : j < l.length := by simpa using h
  rw [List.getD_cons_zero, List.getD_cons_succ, getD_eq 0 hj]
  exact (rise_cons.1 hr).1 _ (List.getElem_mem hj)
 | x :: l, hr, i + 1, 0, h, _ => absurd h (by omega)
 | x :: l, hr, i + 1, j + 1, h, h2 => by
  rw [List.getD_cons_succ, List.getD_cons_succ]
  exact rise_get (rise_cons.1 hr).2 (by omega) (by simpa using h2)
theorem rise_idx {l : List Int} (hr : Rise l) {i j : Nat} (hi : i < l.length) (hj : j < l.length) (e : l.getD i 0 = l.getD j 0) : i = j := by
 rcases Nat.lt_trichotomy i j with h | h | h
 ·have := rise_get hr h hj
  omega
 ·exact h
 ·have := rise_get hr h hi
  omega
theorem rise_of : ∀ {l : List Int}, (∀ j, 0 < j → j < l.length → l.getD (j - 1) 0 < l.getD j 0) → Rise l
 | [], _ => rise_nil
 | [x], _ => rise_cons.2 ⟨fun y h => absurd h (by simp), rise_nil⟩
 | x :: y :: l, h => by
  have hr : Rise (y :: l) := rise_of fun j h0 hj => by
   have := h (j + 1) (by omega) (by simpa using hj)
   match j, h0 with
   | j + 1, _ => simpa using this
  have hxy : x < y := by simpa using h 1 (by omega) (by simp)
  refine rise_cons.2 ⟨fun z hz => ?_, hr⟩
  rcases List.mem_cons.1 hz with e | e
  ·omega
  ·have := (rise_cons.1 hr).1 z e
   omega
theorem mem_get {l : List Int} {x : Int} (h : x ∈ l) : ∃ i, i < l.length ∧ l.getD i 0 = x := by
 obtain ⟨i, hi, e⟩ := List.mem_iff_getElem.1 h
 exact ⟨i, hi, by rw [getD_eq 0 hi, e]⟩
theorem get_mem {l : List Int} {i : Nat} (h : i < l.length) : l.getD i 0 ∈ l := by
 rw [getD_eq 0 h]
 exact List.getElem_mem h
theorem rise_take {l : List Int} (h : Rise l) (n : Nat) : Rise (l.take n) := List.Pairwise.sublist (List.take_sublist n l) h
def tod (h m c : List Int) : List Int := h.flatMap fun a => m.flatMap fun b => c.map fun s => 3600 * a + 60 * b + s
def inR (l : List Int) (hi : Int) : Prop := ∀ x, x ∈ l → 0 ≤ x ∧ x ≤ hi
theorem mem_tod {h m c : List Int} (hm : inR m 59) (hc : inR c 59) (x : Int) : x ∈ tod h m c ↔ x / 3600 ∈ h ∧ x / 60 % 60 ∈ m ∧ x % 60 ∈ c := by
 unfold tod
 rw [List.mem_flatMap]
 constructor
 ·rintro ⟨a, ha, hx⟩
  obtain ⟨b, hb, hx⟩ := List.mem_flatMap.1 hx
  obtain ⟨s, hs, e⟩ := List.mem_map.1 hx
  have := hm b hb
  have := hc s hs
  have e1 : x / 3600 = a := by omega
  have e2 : x / 60 % 60 = b := by omega
  have e3 : x % 60 = s := by omega
  rw [e1, e2, e3]
  exact ⟨ha, hb, hs⟩
 ·rintro ⟨h1, h2, h3⟩
  exact ⟨_, h1, List.mem_flatMap.2 ⟨_, h2, List.mem_map.2 ⟨_, h3, by omega⟩⟩⟩
theorem rise_map {l : List Int} (h : Rise l) (f : Int → Int) (hf : ∀ x y, x < y → f x < f y) : Rise (l.map f) := by
 unfold Rise
 rw [List.pairwise_map]
 exact List.Pairwise.imp (fun {a b} h => hf a b h) h
theorem rise_flat : ∀ {l : List Int} {f : Int → List Int}, Rise l → (∀ a, a ∈ l → Rise (f a)) → (∀ a b, a ∈ l → b ∈ l → a < b → ∀ x, x ∈ f a → ∀ y, y ∈ f b → x < y) → Rise (l.flatMap f)
 | [], _, _, _, _ => rise_nil
 | a :: l, f, h, h1, h2 => by
  rw [List.flatMap_cons, rise_app]
  have p := rise_cons.1 h
  refine ⟨h1 a (List.mem_cons_self ..), rise_flat p.2 (fun b hb => h1 b (List.mem_cons_of_mem _ hb)) (fun b b' hb hb' => h2 b b' (List.mem_cons_of_mem _ hb) (List.mem_cons_of_mem _ hb')), fun x hx y hy => ?_⟩
  obtain ⟨b, hb, hy⟩ := List.mem_flatMap.1 hy
  exact h2 a b (List.mem_cons_self ..) (List.mem_cons_of_mem _ hb) (p.1 b hb) x hx y hy
theorem rise_tod {h m c : List Int} (rh : Rise h) (rm : Rise m) (rc : Rise c) (hm : inR m 59) (hc : inR c 59) : Rise (tod h m c) := by
 refine rise_flat rh (fun a ha => rise_flat rm (fun b hb => rise_map rc _ fun x y h => by omega) ?_) ?_
 ·intro b b' hb hb' hlt x hx y hy
  obtain ⟨s, hs, e⟩ := List.mem_map.1 hx
  obtain ⟨s', hs', e'⟩ := List.mem_map.1 hy
  have := hc s hs
  have := hc s' hs'
  omega
 ·intro b b' hb hb' hlt x hx y hy
  obtain ⟨d, hd, hx⟩ := List.mem_flatMap.1 hx
  obtain ⟨d', hd', hy⟩ := List.mem_flatMap.1 hy
  obtain ⟨s, hs, e⟩ := List.mem_map.1 hx
  obtain ⟨s', hs', e'⟩ := List.mem_map.1 hy
  have := hc s hs
  have := hc s' hs'
  have := hm d hd
  have := hm d' hd'
  omega
theorem tod_bd {h m c : List Int} (hh : inR h 23) (hm : inR m 59) (hc : inR c 59) : inR (tod h m c) 86399 := by
 intro x hx
 have ⟨h1, h2, h3⟩ := (mem_tod hm hc x).1 hx
 have := hh _ h1
 omega
def dayL (h m c : List Int) (lo hi d : Int) : List Int := ((tod h m c).filter fun x => decide (lo ≤ x) && decide (x < hi)).map (fun x => d * 86400 + x)
theorem mem_dayL {h m c : List Int} (hh : inR h 23) (hm : inR m 59) (hc : inR c 59) (lo hi d x : Int) :
  x ∈ dayL h m c lo hi d ↔ x / 86400 = d ∧ x % 86400 ∈ tod h m c ∧ lo ≤ x % 86400 ∧ x % 86400 < hi := by
 unfold dayL
 rw [List.mem_map]
 constructor
 ·rintro ⟨z, hz, e⟩
  have ⟨h1, h2⟩ := List.mem_filter.1 hz
  have := tod_bd hh hm hc z h1
  have e1 : x % 86400 = z := by omega
  rw [e1]
  simp only [Bool.and_eq_true, decide_eq_true_eq] at h2
  exact ⟨by omega, h1, h2.1, h2.2⟩
 ·rintro ⟨h1, h2, h3, h4⟩
  exact ⟨x % 86400, List.mem_filter.2 ⟨h2, by simp [h3, h4]⟩, by omega⟩
theorem rise_dayL {h m c : List Int} (rh : Rise h) (rm : Rise m) (rc : Rise c) (hm : inR m 59) (hc : inR c 59) (lo hi d : Int) : Rise (dayL h m c lo hi d) := by
 refine rise_map ?_ _ fun x y h => by omega
 exact List.Pairwise.sublist List.filter_sublist (rise_tod rh rm rc hm hc)
def setF (fits : Int → Bool) (h m c : List Int) (lo hi : Int) : Nat → Int → List Int
 | 0, _ => []
 | k + 1, d => (if fits d = true then dayL h m c lo hi d else []) ++ setF fits h m c lo hi k (d + 1)
theorem mem_setF {fits : Int → Bool} {h m c : List Int} (hh : inR h 23) (hm : inR m 59) (hc : inR c 59) (lo hi x : Int) : ∀ (k : Nat) (d : Int),
  x ∈ setF fits h m c lo hi k d ↔ d ≤ x / 86400 ∧ x / 86400 < d + k ∧ fits (x / 86400) = true ∧ x % 86400 ∈ tod h m c ∧ lo ≤ x % 86400 ∧ x % 86400 < hi
 | 0, d => by
  constructor
  ·intro hx
   exact absurd hx (by simp [setF])
  ·rintro ⟨h1, h2, _⟩
   omega
 | k + 1, d => by
  unfold setF
  rw [List.mem_append, mem_setF hh hm hc lo hi x k (d + 1)]
  constructor
  ·rintro (h1 | ⟨h1, h2, h3⟩)
   ·by_cases hf : fits d = true
    ·rw [if_pos hf, mem_dayL hh hm hc] at h1
     obtain ⟨e, h1⟩ := h1
     rw [e]
     exact ⟨by omega, by omega, hf, h1⟩
    ·rw [if_neg hf] at h1
     exact absurd h1 (by simp)
   ·exact ⟨by omega, by omega, h3⟩
  ·rintro ⟨h1, h2, h3, h4⟩
   by_cases e : x / 86400 = d
   ·rw [e] at h3
    rw [if_pos h3, mem_dayL hh hm hc]
    exact Or.inl ⟨e, h4⟩
   ·exact Or.inr ⟨by omega, by omega, h3, h4⟩
theorem rise_setF {fits : Int → Bool} {h m c : List Int} (rh : Rise h) (rm : Rise m) (rc : Rise c) (hh : inR h 23) (hm : inR m 59) (hc : inR c 59) (lo hi : Int) : ∀ (k : Nat) (d : Int),
  Rise (setF fits h m c lo hi k d)
 | 0, _ => rise_nil
 | k + 1, d => by
  unfold setF
  rw [rise_app]
  refine ⟨?_, rise_setF rh rm rc hh hm hc lo hi k (d + 1), ?_⟩
  ·by_cases hf : fits d = true
   ·rw [if_pos hf]
    exact rise_dayL rh rm rc hm hc lo hi d
   ·rw [if_neg hf]
    exact rise_nil
  ·intro x hx y hy
   have hy := (mem_setF hh hm hc lo hi y k (d + 1)).1 hy
   by_cases hf : fits d = true
   ·rw [if_pos hf, mem_dayL hh hm hc] at hx
    omega
   ·rw [if_neg hf] at hx
    exact absurd hx (by simp)
end Go.GV.YtdnpbkbklnkjoaaGreatDoor
namespace Go.GV.YtdnpbkbklnkjoaaGreatDoor
open Go.Proofs
def upTo (n : Nat) : List Int := (List.range n).map fun (j : Nat) => (j : Int)
theorem upTo_succ (n : Nat) : upTo (n + 1) = upTo n ++ [(n : Int)] := by unfold upTo; rw [List.range_succ, List.map_append]; rfl
theorem upTo_len (n : Nat) : (upTo n).length = n := by unfold upTo; simp
theorem mem_upTo {n : Nat} {x : Int} : x ∈ upTo n ↔ 0 ≤ x ∧ x < n := by
 unfold upTo
 rw [List.mem_map]
 constructor
 ·rintro ⟨j, hj, e⟩
  have := List.mem_range.1 hj
  omega
 ·rintro ⟨h0, h1⟩
  exact ⟨x.toNat, List.mem_range.2 (by omega), by omega⟩
theorem rise_upTo : ∀ n, Rise (upTo n)
 | 0 => rise_nil
 | n + 1 => by
  rw [upTo_succ, rise_app]
  refine ⟨rise_upTo n, rise_cons.2 ⟨fun y h => absurd h (by simp), rise_nil⟩, fun x hx y hy => ?_⟩
  have := mem_upTo.1 hx
  have := List.mem_singleton.1 hy
  omega
theorem some_l1 (all : Nat) (h : all ≤ 1000) : ∀ (k i : Nat), all - i = k → i ≤ all → days_some.l1 (all : Int) (i : Int) (upTo i) = some (upTo all, ()) := by
 have hlim : limit = 17179869184 := rfl
 intro k
 induction k with
 | zero =>
  intro i hk hil
  have e : i = all := by omega
  subst e
  rw [days_some.l1_eq]
  simp (disch := omega) only [ss, cond_true, cond_false, Option.bind_some]
 | succ k ih =>
  intro i hk hil
  have hlen := upTo_len i
  have := ih (i + 1) (by omega) (by omega)
  rw [upTo_succ, Int.natCast_add, Int.natCast_one] at this
  rw [days_some.l1_eq]
  simp (disch := omega) only [ss, cond_true, cond_false, Option.bind_some, hlen, List.length_singleton, hlim]
  exact this
theorem vupTo_l1 (all : Nat) (h : all ≤ 1000) : ∀ (k i : Nat), all - i = k → i ≤ all → vokref6_upTo.l1 (all : Int) (i : Int) (upTo i) = some (upTo all, ()) := by
 have hlim : limit = 17179869184 := rfl
 intro k
 induction k with
 | zero =>
  intro i hk hil
  have e : i = all := by omega
  subst e
  rw [vokref6_upTo.l1_eq]
  simp (disch := omega) only [ss, cond_true, cond_false, Option.bind_some]
 | succ k ih =>
  intro i hk hil
  have hlen := upTo_len i
  have := ih (i + 1) (by omega) (by omega)
  rw [upTo_succ, Int.natCast_add, Int.natCast_one] at this
  rw [vokref6_upTo.l1_eq]
  simp (disch := omega) only [ss, cond_true, cond_false, Option.bind_some, hlen, List.length_singleton, hlim]
  exact this
def tms (l : List Int) (single : Bool) (n : Int) (all : Nat) : List Int := if l = [] then (if single = true then [n] else upTo all) else l
theorem some_val (l : List Int) (single : Bool) (n : Int) (all : Nat) (hl : l.length ≤ 1000000) (hb : all ≤ 100) :
  days_some.f l single n (all : Int) = some (tms l single n all, ()) ∧ vokref6_times.f l single n (all : Int) = some (tms l single n all, ()) := by
 have hlim : limit = 17179869184 := rfl
 unfold tms
 rw [days_some.f_eq, vokref6_times.f_eq]
 by_cases c : l = []
 ·subst c
  have hnil : (([] : List Int).length : Int) = 0 := rfl
  rw [if_pos rfl]
  cases single with
  | true =>
   rw [if_pos rfl]
   simp (disch := omega) only [ss, cond_true, cond_false, Option.bind_some, hnil]
   exact ⟨trivial, trivial⟩
  | false =>
   have hl := some_l1 all (by omega) all 0 (by omega) (Nat.zero_le _)
   have hv := vupTo_l1 all (by omega) all 0 (by omega) (Nat.zero_le _)
   rw [Int.natCast_zero] at hl hv
   rw [if_neg (by simp)]
   simp (disch := omega) only [ss, cond_true, cond_false, Option.bind_some, hnil, vokref6_upTo.f_eq]
   have e : upTo 0 = [] := rfl
   rw [e] at hl hv
   rw [hl, hv]
   exact ⟨rfl, rfl⟩
 ·have hp : (l.length : Int) > 0 := ne_len.1 c
  have hC : slices_Clone_int_int.f l = some (l, ()) := by
   rw [slices_Clone_int_int.f_sem]
   show (bif decide (l.length ≤ limit) then some (l, ()) else none) = _
   simp (disch := omega) only [ss, cond_true, cond_false, Option.bind_some, hlim]
  rw [if_neg c]
  simp (disch := omega) only [ss, cond_true, cond_false, Option.bind_some, hC, copy_ints l hl]
  exact ⟨trivial, trivial⟩
def okT (x : List Int) (hi : Int) : Prop := Rise x ∧ inR x hi ∧ x.length ≤ 60
theorem rise_wi {l : List Int} {lo hi : Int} {z : Bool} (h : wi l lo hi z) : Rise l := rise_of fun j h0 hj => (h.1 j hj).2 h0
theorem tms_ok (l : List Int) (single : Bool) (n hi : Int) (all : Nat) (hw : wi l 0 hi true) (hn : 0 ≤ n ∧ n ≤ hi) (ha : (all : Int) = hi + 1) (hb : all ≤ 60) : okT (tms l single n all) hi := by
 unfold tms
 by_cases c : l = []
 ·rw [if_pos c]
  cases single with
  | true =>
   rw [if_pos rfl]
   refine ⟨rise_cons.2 ⟨fun y h => absurd h (by simp), rise_nil⟩, fun x hx => ?_, by simp⟩
   have := List.mem_singleton.1 hx
   omega
  | false =>
   rw [if_neg (by simp)]
   refine ⟨rise_upTo all, fun x hx => ?_, by rw [upTo_len]; exact hb⟩
   have := mem_upTo.1 hx
   omega
 ·rw [if_neg c]
  refine ⟨rise_wi hw, fun x hx => ?_, hw.2⟩
  obtain ⟨i, hi1, e⟩ := mem_get hx
  have := (hw.1 i hi1).1
  unfold okI at this
  omega
theorem cost_some (r : Rl) (s n : Int) (hr : shortR r) : ∃ k, vokref6_Cost.f r s n = some (k, ()) := by
 obtain ⟨b, hb⟩ := may_some r hr
 have hV := may_same r hr
 rw [hb] at hV
 have hT := (may_mo s).2
 have hlast : ∀ x : Int, ∃ k, vokref6_Cost.l2 n x = some (k, ()) := fun x => ⟨_, by rw [vokref6_Cost.l2_eq]⟩
 have hl1 : ∀ (x : Int) (c : Bool), ∃ k, vokref6_Cost.l1 n x c = some (k, ()) := fun x c => by
  rw [vokref6_Cost.l1_eq]
  cases c with
  | true => rw [cond_true]; exact hlast _
  | false => rw [cond_false]; exact hlast _
 have hfin : ∀ (t : List Int × List Int × List Int × Unit), vokref6_Times.f r s = some t → ∃ k, vokref6_Cost.f r s n = some (k, ()) := fun t ht => by
  rw [vokref6_Cost.f_eq, ht, Option.bind_some]
  by_cases c : (r.2.2.2.2.2.2.2.2.2.2.2.2.2.2.1.length : Int) > 0
  ·rw [dp c, cond_true]
   exact hl1 _ _
  ·rw [dn c, cond_false]
   exact hl1 _ _
 have hright : vokref6_right.f r s = some (b && decide (-62135596800 ≤ s ∧ s ≤ 253402300799), ()) := by
  rw [vokref6_right.f_eq, ← hV, hT]
  cases b <;> rfl
 by_cases c : b = true ∧ inT s
 ·obtain ⟨rfl, ht⟩ := c
  have hD := (mday_spec s (by unfold inT at ht; omega) (by unfold inT at ht; omega)).2
  unfold shortR short at hr
  obtain ⟨_, _, _, _, _, h6, h7, h8, _⟩ := hr
  have t1 : ∀ sg n, vokref6_times.f r.2.2.2.2.2.2.2.2.2.2.2.1 sg n 24 = some (tms r.2.2.2.2.2.2.2.2.2.2.2.1 sg n 24, ()) := fun sg n => (some_val _ sg n 24 (by omega) (by omega)).2
  have t2 : ∀ sg n, vokref6_times.f r.2.2.2.2.2.2.2.2.2.2.2.2.1 sg n 60 = some (tms r.2.2.2.2.2.2.2.2.2.2.2.2.1 sg n 60, ()) := fun sg n => (some_val _ sg n 60 (by omega) (by omega)).2
  have t3 : ∀ sg n, vokref6_times.f r.2.2.2.2.2.2.2.2.2.2.2.2.2.1 sg n 60 = some (tms r.2.2.2.2.2.2.2.2.2.2.2.2.2.1 sg n 60, ()) := fun sg n => (some_val _ sg n 60 (by omega) (by omega)).2
  rw [dp ht] at hright
  have hX : ∃ t, vokref6_Times.f r s = some t := by
   rw [vokref6_Times.f_eq, hright]
   simp (disch := omega) only [ss, cond_true, cond_false, Option.bind_some, hD, t1, t2, t3]
   exact ⟨_, rfl⟩
  obtain ⟨t, hX⟩ := hX
  exact hfin t hX
 ·have e : (b && decide (-62135596800 ≤ s ∧ s ≤ 253402300799)) = false := by
   cases b with
   | false => rfl
   | true => rw [dn (fun q => c ⟨rfl, q⟩)]; rfl
  rw [e] at hright
  refine hfin ([], [], [], ()) ?_
  rw [vokref6_Times.f_eq, hright]
  simp (disch := omega) only [ss, cond_true, cond_false, Option.bind_some]
end Go.GV.YtdnpbkbklnkjoaaGreatDoor
namespace Go.GV.YtdnpbkbklnkjoaaGreatDoor
open Go.Proofs
def isNum (f w : Int) (we : List Int) (n k : Int) : Prop :=
 (f = 1 ∧ we = [] ∧ ∃ m d, isDate n k m d) ∨ (f = 1 ∧ we ≠ [] ∧ 0 ≤ k ∧ ∃ j, isWeek n w k j) ∨ (f = 2 ∧ ∃ y m d, isDate n y m d ∧ k = 12 * y + m) ∨ (f = 3 ∧ k = (n + 3 - w) / 7) ∨ (f = 4 ∧ k = n)
def isPer (f w : Int) (we : List Int) (t k : Int) : Prop := (f ≤ 4 ∧ isNum f w we (t / 86400) k) ∨ (f = 5 ∧ k = t / 3600) ∨ (f = 6 ∧ k = t / 60) ∨ (f = 7 ∧ k = t)
def off (f w : Int) : Int := if f = 3 then (if w < 3 then 2932895 else 2932896) else 0
theorem down_spec' (t k : Int) (h : inT t) (hk : 0 < k) (hk2 : k ≤ 3600) : days_down.f t k = some (t / k, ()) ∧ True := by
 obtain ⟨e1, e2⟩ := tdm t k hk
 have b1 := Int.emod_nonneg t (show k ≠ 0 by omega)
 have b2 := Int.emod_lt_of_pos t hk
 have hq := Int.emod_add_mul_ediv t k
 unfold inT at h
 have b3 : t / k ≤ 253402300799 := by
  have := Int.ediv_le_ediv hk h.2
  have := Int.ediv_le_self k (show (0 : Int) ≤ 253402300799 by omega)
  omega
 have b4 : -62135596801 ≤ t / k := by
  have h5 := Int.ediv_le_ediv hk h.1
  have h6 : -62135596801 ≤ -62135596800 / k := by
   refine Int.le_ediv_of_mul_le hk ?_
   have : 1 * 62135596801 ≤ k * 62135596801 := Int.mul_le_mul_of_nonneg_right (by omega) (by omega)
   omega
  omega
 constructor
 ·rw [days_down.f_eq]
  by_cases c : t < 0
  ·have hd : (0 - t + k - 1) / k = -(t / k) := by
    by_cases hz : t % k = 0
    ·have : 0 - t + k - 1 = (k - 1) + k * (-(t / k)) := by rw [Int.mul_neg]; omega
     rw [this, Int.add_mul_ediv_left _ _ (by omega), Int.ediv_eq_zero_of_lt (by omega) (by omega)]
     omega
    ·have : 0 - t + k - 1 = (k - t % k - 1) + k * (-(t / k)) := by rw [Int.mul_neg]; omega
     rw [this, Int.add_mul_ediv_left _ _ (by omega), Int.ediv_eq_zero_of_lt (by omega) (by omega)]
     omega
   have hk0 : ¬ k = 0 := by omega
   have e3 : 0 - -(t / k) = t / k := by omega
   simp (disch := omega) only [ss, cond_true, cond_false, Option.bind_some, tdn (show (0 : Int) ≤ 0 - t + k - 1 by omega), hd, e3]
  ·simp (disch := omega) only [ss, cond_true, cond_false, Option.bind_some, tdn (show (0 : Int) ≤ t by omega)]
 ·trivial
section
variable (f iv ct un wkst : Int) (en : Bool) (mo we yd md : List Int) (dy : List Dy) (ho mi se po : List Int)
theorem num_both (t : Int) (ht : inT t) (hf : 1 ≤ f ∧ f ≤ 7) (hw : 0 ≤ wkst ∧ wkst ≤ 6) (hl : we.length ≤ 100000) :
  ∃ k, isPer f wkst we t k ∧ (-300000000000 ≤ k ∧ k ≤ 300000000000) ∧ days_number.f (f, iv, ct, un, wkst, en, mo, we, yd, md, dy, ho, mi, se, po, ()) t = some (k + off f wkst, ()) ∧ True := by
 have hb := inT_day ht
 obtain ⟨y, m, d, hd, e, e'⟩ := date_spec (t / 86400) hb.1 hb.2
 obtain ⟨hD, hV⟩ := mday_spec t (by unfold inT at ht; omega) (by unfold inT at ht; omega)
 obtain ⟨q1, q2, q3, q4, _⟩ := date_bd hd
 obtain ⟨v1, v2, v3, v4⟩ := valid_iff.1 hd.1
 have hof := of_spec (t / 86400) y m d e
 rw [days_number.f_eq, hD]
 simp only [Option.bind_some]
 rw [hof]
 simp only [Option.bind_some]
 by_cases f1 : f = 1
 ·subst f1
  have ho : off 1 wkst = 0 := rfl
  by_cases c : we = []
  ·subst c
   have hnil : (([] : List Int).length : Int) = 0 := rfl
   refine ⟨y, .inl ⟨by omega, .inl ⟨rfl, rfl, m, d, hd⟩⟩, by omega, ?_, ?_⟩
   ·rw [ho, Int.add_zero]
    simp (disch := omega) only [ss, cond_true, cond_false, Option.bind_some, days_year.f_eq, hnil]
   ·trivial
  ·have hp := ne_len.1 c
   obtain ⟨Y, K, h1, h2, h3, h4, h5, h6, h7⟩ := week_spec (t / 86400) wkst hb.1 hb.2 hw.1 hw.2
   refine ⟨Y, .inl ⟨by omega, .inr (.inl ⟨rfl, c, h2, K, h1⟩)⟩, by omega, ?_, ?_⟩
   ·rw [ho, Int.add_zero]
    simp (disch := omega) only [ss, cond_true, cond_false, Option.bind_some, days_year.f_eq, h6]
   ·trivial
 ·by_cases f2 : f = 2
  ·subst f2
   have ho : off 2 wkst = 0 := rfl
   refine ⟨12 * y + m, .inl ⟨by omega, .inr (.inr (.inl ⟨rfl, y, m, d, hd, rfl⟩))⟩, by omega, ?_, ?_⟩
   ·rw [ho, Int.add_zero]
    simp (disch := omega) only [ss, cond_true, cond_false, Option.bind_some]
   ·trivial
  ·by_cases f3 : f = 3
   ·subst f3
    have hk := wk_bd (t / 86400)
    have hm : Int.tmod (wk (t / 86400) - wkst + 7) 7 = (t / 86400 + 3 - wkst) % 7 := by
     rw [tmn (by omega)]
     unfold wk
     omega
    have hb7 : Int.tdiv (t / 86400 - (t / 86400 + 3 - wkst) % 7 + 20530272) 7 = (t / 86400 + 3 - wkst) / 7 + off 3 wkst := by
     rw [tdn (by omega)]
     unfold off
     rw [if_pos rfl]
     split <;> omega
    have ho : off 3 wkst = 2932895 ∨ off 3 wkst = 2932896 := by unfold off; rw [if_pos rfl]; split <;> simp
    refine ⟨(t / 86400 + 3 - wkst) / 7, .inl ⟨by omega, .inr (.inr (.inr (.inl ⟨rfl, rfl⟩)))⟩, by omega, ?_, ?_⟩
    ·rw [days_begin.f_eq, weekday_spec]
     simp (disch := omega) only [ss, cond_true, cond_false, Option.bind_some, hm, hb7]
    ·trivial
   ·have ho : off f wkst = 0 := by unfold off; rw [if_neg f3]
    rw [ho]
    by_cases f4 : f = 4
    ·subst f4
     refine ⟨t / 86400, .inl ⟨by omega, .inr (.inr (.inr (.inr ⟨rfl, rfl⟩)))⟩, by omega, ?_, ?_⟩
     ·rw [Int.add_zero]
      simp (disch := omega) only [ss, cond_true, cond_false, Option.bind_some]
     ·trivial
    ·by_cases f5 : f = 5
     ·subst f5
      obtain ⟨g1, g2⟩ := down_spec' t 3600 ht (by omega) (by omega)
      refine ⟨t / 3600, .inr (.inl ⟨rfl, rfl⟩), by unfold inT at ht; omega, ?_, ?_⟩
      ·rw [Int.add_zero]
       simp (disch := omega) only [ss, cond_true, cond_false, Option.bind_some, g1]
      ·trivial
     ·by_cases f6 : f = 6
      ·subst f6
       obtain ⟨g1, g2⟩ := down_spec' t 60 ht (by omega) (by omega)
       refine ⟨t / 60, .inr (.inr (.inl ⟨rfl, rfl⟩)), by unfold inT at ht; omega, ?_, ?_⟩
       ·rw [Int.add_zero]
        simp (disch := omega) only [ss, cond_true, cond_false, Option.bind_some, g1]
       ·trivial
      ·have f7 : f = 7 := by omega
       subst f7
       refine ⟨t, .inr (.inr (.inr ⟨rfl, rfl⟩)), by unfold inT at ht; omega, ?_, ?_⟩
       ·rw [Int.add_zero]
        simp (disch := omega) only [ss, cond_true, cond_false, Option.bind_some]
       ·trivial
end
theorem year_uniq {n y y' : Int} (h0 : 1 ≤ y) (h1 : 1 ≤ y') (a1 : fst_ y ≤ n) (a2 : n < fst_ (y + 1)) (b1 : fst_ y' ≤ n) (b2 : n < fst_ (y' + 1)) : y = y' := by
 rcases Int.lt_trichotomy y y' with c | c | c
 ·have := fst_mono' (a := y + 1) (b := y') (by omega) (by omega)
  omega
 ·exact c
 ·have := fst_mono' (a := y' + 1) (b := y) (by omega) (by omega)
  omega
theorem num_mono {f w : Int} {we : List Int} {n n' k k' : Int} (h : isNum f w we n k) (g : isNum f w we n' k') (hn : n ≤ n') : k ≤ k' := by
 rcases h with ⟨f1, e1, m, d, h⟩ | ⟨f1, e1, h0, j, h⟩ | ⟨f1, y, m, d, h, rfl⟩ | ⟨f1, rfl⟩ | ⟨f1, rfl⟩ <;>
  rcases g with ⟨f2, e2, m', d', g⟩ | ⟨f2, e2, g0, j', g⟩ | ⟨f2, y', m', d', g, rfl⟩ | ⟨f2, rfl⟩ | ⟨f2, rfl⟩ <;> first | omega | (exact absurd e1 e2) | (exact absurd e2 e1) | skip
 ·obtain ⟨a1, a2, _⟩ := date_bd h
  obtain ⟨b1, b2, _⟩ := date_bd g
  obtain ⟨v1, _⟩ := valid_iff.1 h.1
  obtain ⟨v2, _⟩ := valid_iff.1 g.1
  refine Int.not_lt.1 fun c => ?_
  have := fst_mono' (a := k' + 1) (b := k) (by omega) (by omega)
  omega
 ·refine Int.not_lt.1 fun c => ?_
  have := w1_mono (a := k' + 1) (b := k) (w := w) (by omega) (by omega)
  obtain ⟨a1, a2, _⟩ := h
  obtain ⟨b1, b2, _⟩ := g
  omega
 ·obtain ⟨a1, a2, a3, a4, _⟩ := date_bd h
  obtain ⟨b1, b2, b3, b4, _⟩ := date_bd g
  obtain ⟨v1, v1', v1'', v1d⟩ := valid_iff.1 h.1
  obtain ⟨v2, v2', v2'', v2d⟩ := valid_iff.1 g.1
  have h2 := h.2
  have g2 := g.2
  rcases Int.lt_trichotomy y y' with c | c | c
  ·omega
  ·subst c
   refine Int.not_lt.1 fun c => ?_
   have cs := cum_succ y m' b3 b4
   have := cum_mono y (a := m' + 1) (b := m) (by omega) (by omega) (by omega)
   omega
  ·have := fst_mono' (a := y' + 1) (b := y) (by omega) (by omega)
   omega
theorem per_mono {f w : Int} {we : List Int} {t t' k k' : Int} (h : isPer f w we t k) (g : isPer f w we t' k') (ht : t ≤ t') : k ≤ k' := by
 rcases h with ⟨a, h⟩ | ⟨a, rfl⟩ | ⟨a, rfl⟩ | ⟨a, rfl⟩ <;> rcases g with ⟨b, g⟩ | ⟨b, rfl⟩ | ⟨b, rfl⟩ | ⟨b, rfl⟩ <;> first | omega | skip
 exact num_mono h g (by omega)
end Go.GV.YtdnpbkbklnkjoaaGreatDoor
namespace Go.GV.YtdnpbkbklnkjoaaGreatDoor
open Go.Proofs
def isIv (f w : Int) (we : List Int) (n A B : Int) : Prop :=
 (f = 1 ∧ we = [] ∧ ∃ y, 1 ≤ y ∧ y ≤ 9999 ∧ fst_ y ≤ n ∧ n < fst_ (y + 1) ∧ A = fst_ y ∧ B = fst_ (y + 1) - 1) ∨
 (f = 1 ∧ we ≠ [] ∧ ∃ Y, 0 ≤ Y ∧ Y ≤ 10000 ∧ w1 Y w ≤ n ∧ n < w1 (Y + 1) w ∧ A = (if w1 Y w < -719162 then -719162 else w1 Y w) ∧ B = (if w1 (Y + 1) w - 1 > 2932896 then 2932896 else w1 (Y + 1) w - 1)) ∨
 (f = 2 ∧ ∃ y m, 1 ≤ y ∧ y ≤ 9999 ∧ 1 ≤ m ∧ m ≤ 12 ∧ fst_ y + cum y m ≤ n ∧ n < fst_ y + cum y (m + 1) ∧ A = fst_ y + cum y m ∧ B = fst_ y + cum y (m + 1) - 1) ∨
 (f = 3 ∧ A = (if n - (n + 3 - w) % 7 < -719162 then -719162 else n - (n + 3 - w) % 7) ∧ B = (if n - (n + 3 - w) % 7 + 6 > 2932896 then 2932896 else n - (n + 3 - w) % 7 + 6)) ∨
 (f = 4 ∧ A = n ∧ B = n)
theorem iv_bd {f w : Int} {we : List Int} {n A B : Int} (h : isIv f w we n A B) (hn : -719162 ≤ n ∧ n ≤ 2932896) : A ≤ n ∧ n ≤ B ∧ -719162 ≤ A ∧ B ≤ 2932896 := by
 rcases h with ⟨_, _, y, h1, h2, h3, h4, rfl, rfl⟩ | ⟨_, _, Y, h1, h2, h3, h4, rfl, rfl⟩ | ⟨_, y, m, h1, h2, h3, h4, h5, h6, rfl, rfl⟩ | ⟨_, rfl, rfl⟩ | ⟨_, rfl, rfl⟩
 ·have a := fst_mono' (a := 1) (b := y) (by omega) h1
  have b := fst_mono' (a := y + 1) (b := 10000) (by omega) (by omega)
  rw [fst_1] at a
  rw [fst_10000] at b
  omega
 ·split <;> split <;> omega
 ·have a := fst_mono' (a := 1) (b := y) (by omega) h1
  have b := fst_mono' (a := y + 1) (b := 10000) (by omega) (by omega)
  have c := fst_step y h1
  have d := cum_mono y (a := m + 1) (b := 13) (by omega) (by omega) (by omega)
  have e := cum_bd y m
  rw [fst_1] at a
  rw [fst_10000] at b
  omega
 ·split <;> split <;> omega
 ·omega
theorem iv_num {f w : Int} {we : List Int} {n k A B x k' : Int} (h : isIv f w we n A B) (hn : isNum f w we n k) (hx : isNum f w we x k') (hr : -719162 ≤ x ∧ x ≤ 2932896) :
  (A ≤ x ∧ x ≤ B → k' = k) ∧ (x = A - 1 → k' = k - 1) ∧ (x = B + 1 → k' = k + 1) := by
 rcases h with ⟨f1, e1, y, h1, h2, h3, h4, rfl, rfl⟩ | ⟨f1, e1, Y, h1, h2, h3, h4, hA, hB⟩ | ⟨f1, y, m, h1, h2, h3, h4, h5, h6, rfl, rfl⟩ | ⟨f1, hA, hB⟩ | ⟨f1, rfl, rfl⟩ <;>
  rcases hn with ⟨f2, e2, m1, d1, g⟩ | ⟨f2, e2, g0, j1, g⟩ | ⟨f2, y1, m1, d1, g, rfl⟩ | ⟨f2, rfl⟩ | ⟨f2, rfl⟩ <;> first | omega | (exact absurd e1 e2) | (exact absurd e2 e1) | skip <;>
  rcases hx with ⟨f3, e3, m2, d2, q⟩ | ⟨f3, e3, q0, j2, q⟩ | ⟨f3, y2, m2, d2, q, rfl⟩ | ⟨f3, rfl⟩ | ⟨f3, rfl⟩ <;> first | omega | (exact absurd e1 e3) | (exact absurd e3 e1) | skip
 ·-- years
  obtain ⟨a1, a2, _⟩ := date_bd g
  obtain ⟨b1, b2, _⟩ := date_bd q
  obtain ⟨v1, v1', _⟩ := valid_iff.1 g.1
  obtain ⟨v2, v2', _⟩ := valid_iff.1 q.1
  have ek : k = y := year_uniq v1 h1 a1 a2 h3 h4
  subst ek
  refine ⟨fun r => year_uniq v2 v1 b1 b2 r.1 (by omega), fun r => ?_, fun r => ?_⟩
  ·have s := fst_step0 (k - 1) (by omega)
   rw [show k - 1 + 1 = k by omega] at s
   rcases Int.lt_or_le 1 k with c | c
   ·exact year_uniq v2 (by omega) b1 b2 (by omega) (by rw [show k - 1 + 1 = k by omega]; omega)
   ·have : k = 1 := by omega
    subst this
    have := fst_1
    omega
  ·have s := fst_step0 (k + 1) (by omega)
   exact year_uniq v2 (by omega) b1 b2 (by omega) (by omega)
 ·-- years by weeks
  obtain ⟨a1, a2, _⟩ := g
  obtain ⟨b1, b2, _⟩ := q
  have ek : k = Y := (week_uniq (n := n) (w := w) (k := (n - w1 k w) / 7 + 1) (k' := (n - w1 Y w) / 7 + 1) g0 h1 ⟨a1, a2, rfl⟩ ⟨h3, h4, rfl⟩).1
  subst ek
  have uq : ∀ z, 0 ≤ z → w1 z w ≤ x → x < w1 (z + 1) w → k' = z := fun z z0 z1 z2 => (week_uniq (n := x) (w := w) (k := (x - w1 k' w) / 7 + 1) (k' := (x - w1 z w) / 7 + 1) q0 z0 ⟨b1, b2, rfl⟩ ⟨z1, z2, rfl⟩).1
  have n0 := w1_near k w
  have n1 := w1_near (k + 1) w
  refine ⟨fun r => uq k g0 ?_ ?_, fun r => ?_, fun r => ?_⟩
  ·rw [hA] at r
   split at r <;> omega
  ·rw [hB] at r
   obtain ⟨_, r⟩ := r
   split at r <;> omega
  ·rw [hA] at r
   split at r
   ·omega
   ·rcases Int.lt_or_le 0 k with c | c
    ·have s := w1_step (k - 1) w (by omega)
     rw [show k - 1 + 1 = k by omega] at s
     exact uq (k - 1) (by omega) (by omega) (by rw [show k - 1 + 1 = k by omega]; omega)
    ·have : k = 0 := by omega
     subst this
     have f0 : fst_ 0 = -719528 := by decide
     omega
  ·rw [hB] at r
   split at r
   ·omega
   ·have s := w1_step (k + 1) w (by omega)
    exact uq (k + 1) (by omega) (by omega) (by omega)
 ·-- months
  obtain ⟨a1, a2, a3, a4, _⟩ := date_bd g
  obtain ⟨b1, b2, b3, b4, _⟩ := date_bd q
  obtain ⟨v1, v1', v1a, v1b⟩ := valid_iff.1 g.1
  obtain ⟨v2, v2', v2a, v2b⟩ := valid_iff.1 q.1
  have c1 := cum_succ y1 m1 a3 a4
  have c2 := cum_succ y2 m2 b3 b4
  have g2 := g.2
  have q2 := q.2
  have uq : ∀ (z u n' m' d' y' : Int), isDate n' y' m' d' → 1 ≤ z → z ≤ 9999 → 1 ≤ u → u ≤ 12 → fst_ z + cum z u ≤ n' → n' < fst_ z + cum z (u + 1) → y' = z ∧ m' = u := fun z u n' m' d' y' hd z1 z2 u1 u2 r1 r2 => by
   have hb := cum_succ z u u1 u2
   have hu : isDate n' z u (n' - fst_ z - cum z u + 1) := ⟨valid_iff.2 ⟨z1, z2, by omega, by omega⟩, by omega⟩
   obtain ⟨e1, e2, _⟩ := date_uniq hd hu
   exact ⟨e1, e2⟩
  obtain ⟨ey, em⟩ := uq y m n m1 d1 y1 g h1 h2 h3 h4 h5 h6
  subst ey em
  refine ⟨fun r => ?_, fun r => ?_, fun r => ?_⟩
  ·obtain ⟨e3, e4⟩ := uq y1 m1 x m2 d2 y2 q h1 h2 h3 h4 r.1 (by omega)
   rw [e3, e4]
  ·by_cases cm : m1 = 1
   ·subst cm
    have c0 := cum_1 y1
    have s := fst_step0 (y1 - 1) (by omega)
    rw [show y1 - 1 + 1 = y1 by omega] at s
    rcases Int.lt_or_le 1 y1 with cy | cy
    ·have s' := fst_step (y1 - 1) (by omega)
     rw [show y1 - 1 + 1 = y1 by omega] at s'
     have h13 := cum_succ (y1 - 1) 12 (by omega) (by omega)
     have hl := mlen_bd (y1 - 1) 12
     have hl2 : mlen (y1 - 1) 12 = 31 := by unfold mlen; simp
     obtain ⟨e3, e4⟩ := uq (y1 - 1) 12 x m2 d2 y2 q (by omega) (by omega) (by omega) (by omega) (by rw [show (12 : Int) + 1 = 13 from rfl] at h13; omega) (by rw [show (12 : Int) + 1 = 13 from rfl]; omega)
     rw [e3, e4]
     omega
    ·have : y1 = 1 := by omega
     subst this
     have := fst_1
     omega
   ·have hs := cum_succ y1 (m1 - 1) (by omega) (by omega)
    rw [show m1 - 1 + 1 = m1 by omega] at hs
    have hl : 28 ≤ mlen y1 (m1 - 1) := by
     unfold mlen
     split
     ·split <;> omega
     ·split
      ·omega
      ·rw [if_pos ⟨by omega, by omega⟩]; omega
    obtain ⟨e3, e4⟩ := uq y1 (m1 - 1) x m2 d2 y2 q (by omega) (by omega) (by omega) (by omega) (by omega) (by rw [show m1 - 1 + 1 = m1 by omega]; omega)
    rw [e3, e4]
    omega
  ·by_cases cm : m1 = 12
   ·subst cm
    have s' := fst_step y1 (by omega)
    have c0 := cum_1 (y1 + 1)
    have c3 := cum_succ (y1 + 1) 1 (by omega) (by omega)
    have hl2 : mlen (y1 + 1) 1 = 31 := by unfold mlen; simp
    rw [show (12 : Int) + 1 = 13 from rfl] at r
    have b9 := fst_mono' (a := y1 + 1) (b := 10000) (by omega) (by omega)
    rw [fst_10000] at b9
    rcases Int.lt_or_le y1 9999 with cy | cy
    ·obtain ⟨e3, e4⟩ := uq (y1 + 1) 1 x m2 d2 y2 q (by omega) (by omega) (by omega) (by omega) (by omega) (by omega)
     rw [e3, e4]
     omega
    ·have : y1 = 9999 := by omega
     subst this
     have : fst_ (9999 + 1) = 2932897 := fst_10000
     omega
   ·have hs := cum_succ y1 (m1 + 1) (by omega) (by omega)
    have hl : 28 ≤ mlen y1 (m1 + 1) := by
     unfold mlen
     split
     ·split <;> omega
     ·split
      ·omega
      ·rw [if_pos ⟨by omega, by omega⟩]; omega
    obtain ⟨e3, e4⟩ := uq y1 (m1 + 1) x m2 d2 y2 q (by omega) (by omega) (by omega) (by omega) (by omega) (by omega)
    rw [e3, e4]
    omega
theorem jan1 (y : Int) (h1 : 1 ≤ y) (h2 : y ≤ 9999) : civil_Days.f y 1 1 = some (fst_ y, 0, ()) := by
 have hv : validB y 1 1 = true := valid_iff.2 ⟨h1, h2, by omega, by unfold mlen; simp⟩
 have := cum_1 y
 have e : fst_ y + 1 - 1 + cum y 1 = fst_ y := by omega
 rw [days_spec, if_pos hv, e]
theorem weekOne_l1 (y w : Int) (h1 : 0 ≤ y) (h2 : y ≤ 10001) (hw : 0 ≤ w ∧ w ≤ 6) : days_weekOne.l1 w (fst_ y) = some (w1 y w, ()) := by
 have hb := fst_bd0 y h1 h2
 have hk := wk_bd (fst_ y)
 rw [days_weekOne.l1_eq, weekday_spec]
 simp (disch := omega) only [ss, cond_true, cond_false, Option.bind_some, tmn (show (0 : Int) ≤ wk (fst_ y) - w + 7 by omega)]
 unfold w1
 by_cases c : (wk (fst_ y) - w + 7) % 7 ≤ 3
 ·simp (disch := omega) only [ss, cond_true, cond_false, Option.bind_some]
  congr 2
  unfold wk at *
  omega
 ·simp (disch := omega) only [ss, cond_true, cond_false, Option.bind_some]
  congr 2
  unfold wk at *
  omega
theorem weekOne_spec (y w : Int) (h1 : 0 ≤ y) (h2 : y ≤ 10001) (hw : 0 ≤ w ∧ w ≤ 6) : days_weekOne.f y w = some (if y < 1 then -719169 else if y > 10000 then 2932903 else w1 y w, ()) := by
 rw [days_weekOne.f_eq]
 by_cases c1 : y < 1
 ·rw [if_pos c1]
  simp (disch := omega) only [ss, cond_true, cond_false, Option.bind_some]
 ·rw [if_neg c1]
  by_cases c2 : y > 10000
  ·rw [if_pos c2]
   simp (disch := omega) only [ss, cond_true, cond_false, Option.bind_some]
  ·rw [if_neg c2]
   have hl := weekOne_l1 y w h1 h2 hw
   by_cases c3 : y ≤ 9999
   ·simp (disch := omega) only [ss, cond_true, cond_false, Option.bind_some, jan1 y (by omega) c3, hl]
   ·have : y = 10000 := by omega
    subst this
    rw [fst_10000] at hl
    simp (disch := omega) only [ss, cond_true, cond_false, Option.bind_some, hl]
theorem cut_spec (a b : Int) : days_cut.f a b = some (if a < -719162 then -719162 else a, if b > 2932896 then 2932896 else b, ()) := by
 rw [days_cut.f_eq]
 simp only [mm, cond_true, cond_false, gt_iff_lt]
section
variable (f iv ct un wkst : Int) (en : Bool) (mo we yd md : List Int) (dy : List Dy) (ho mi se po : List Int)
theorem plan_days (s sec n0 y0 m0 d0 w0 t : Int) (ht : inT t) (hf : 1 ≤ f ∧ f ≤ 7) (hw : 0 ≤ wkst ∧ wkst ≤ 6) (hl : we.length ≤ 100000) :
  ∃ A B, (f ≤ 4 → isIv f wkst we (t / 86400) A B) ∧ (4 < f → A = t / 86400 ∧ B = t / 86400) ∧ days_Plan_Days.f ((f, iv, ct, un, wkst, en, mo, we, yd, md, dy, ho, mi, se, po, ()), s, (n0, y0, m0, d0, w0, ()), sec, ()) t = some (A, B, ()) := by
 have hb := inT_day ht
 obtain ⟨y, m, d, hd, e, e'⟩ := date_spec (t / 86400) hb.1 hb.2
 obtain ⟨hD, _⟩ := mday_spec t (by unfold inT at ht; omega) (by unfold inT at ht; omega)
 obtain ⟨q1, q2, q3, q4, _⟩ := date_bd hd
 obtain ⟨v1, v2, v3, v4⟩ := valid_iff.1 hd.1
 have hof := of_spec (t / 86400) y m d e
 have heq := hd.2
 rw [days_Plan_Days.f_eq, hD]
 simp only [Option.bind_some]
 rw [hof]
 simp only [Option.bind_some]
 by_cases f1 : f = 1
 ·subst f1
  by_cases c : we = []
  ·subst c
   have hnil : (([] : List Int).length : Int) = 0 := rfl
   have hs := fst_step y v1
   have h13 := cum13 y
   have hfb := fst_bd0 y (by omega) (by omega)
   have e3 : fst_ y + cum y 13 - 1 = fst_ (y + 1) - 1 := by omega
   refine ⟨fst_ y, fst_ (y + 1) - 1, fun _ => .inl ⟨rfl, rfl, y, v1, v2, q1, q2, rfl, rfl⟩, fun q => by omega, ?_⟩
   simp (disch := omega) only [ss, cond_true, cond_false, Option.bind_some, days_yearDays.f_eq, hnil, jan1 y v1 v2, ylen_spec y (by omega), e3]
  ·have hp := ne_len.1 c
   obtain ⟨Y, K, h1, h2, h3, h4, h5, h6, _⟩ := week_spec (t / 86400) wkst hb.1 hb.2 hw.1 hw.2
   obtain ⟨a1, a2, _⟩ := h1
   have o1 := weekOne_spec Y wkst h2 (by omega) hw
   have o2 := weekOne_spec (Y + 1) wkst (by omega) (by omega) hw
   have n0' := w1_near Y wkst
   have n1' := w1_near (Y + 1) wkst
   have b0 := fst_bd0 Y h2 (by omega)
   have b1 := fst_bd0 (Y + 1) (by omega) (by omega)
   have f0 : fst_ 0 = -719528 := by decide
   have f10 : fst_ 10001 = 2933263 := by decide
   refine ⟨_, _, fun _ => .inr (.inl ⟨rfl, c, Y, h2, h3, a1, a2, rfl, rfl⟩), fun q => by omega, ?_⟩
   have fin : ∀ v1 v2 : Int, v1 = (if Y < 1 then -719169 else if Y > 10000 then 2932903 else w1 Y wkst) → v2 = (if Y + 1 < 1 then -719169 else if Y + 1 > 10000 then 2932903 else w1 (Y + 1) wkst) →
     (if v1 < -719162 then -719162 else v1) = (if w1 Y wkst < -719162 then -719162 else w1 Y wkst) ∧ (if v2 - 1 > 2932896 then 2932896 else v2 - 1) = (if w1 (Y + 1) wkst - 1 > 2932896 then 2932896 else w1 (Y + 1) wkst - 1) ∧ (-10000000 ≤ v2 ∧ v2 ≤ 10000000) := fun v1 v2 e1 e2 => by
    have hv1 : (v1 = -719169 ∧ Y = 0) ∨ v1 = w1 Y wkst := by
     by_cases cY : Y < 1
     ·rw [if_pos cY] at e1
      exact .inl ⟨e1, by omega⟩
     ·rw [if_neg cY, if_neg (by omega)] at e1
      exact .inr e1
    have hv2 : (v2 = 2932903 ∧ Y = 10000) ∨ v2 = w1 (Y + 1) wkst := by
     rw [if_neg (by omega)] at e2
     by_cases cY : Y + 1 > 10000
     ·rw [if_pos cY] at e2
      exact .inl ⟨e2, by omega⟩
     ·rw [if_neg cY] at e2
      exact .inr e2
    refine ⟨?_, ?_, ?_⟩
    ·rcases hv1 with ⟨e3, e4⟩ | e3
     ·subst e4
      rw [e3]
      split <;> split <;> omega
     ·rw [e3]
    ·rcases hv2 with ⟨e3, e4⟩ | e3
     ·subst e4
      have n2 : fst_ (10000 + 1) = 2933263 := f10
      rw [e3]
      split <;> split <;> omega
     ·rw [e3]
    ·rcases hv2 with ⟨e3, _⟩ | e3 <;> rw [e3] <;> omega
   obtain ⟨g1, g2, g3⟩ := fin _ _ rfl rfl
   rw [← g1, ← g2]
   simp (disch := omega) only [ss, cond_true, cond_false, Option.bind_some, days_yearDays.f_eq, days_year.f_eq, h6, o1, o2, cut_spec]
 ·by_cases f2 : f = 2
  ·subst f2
   have hc := cum_succ y m q3 q4
   have hml := mlen_bd y m
   have e1 : t / 86400 - d + 1 = fst_ y + cum y m := by omega
   have e2 : t / 86400 - d + mlen y m = fst_ y + cum y (m + 1) - 1 := by omega
   refine ⟨fst_ y + cum y m, fst_ y + cum y (m + 1) - 1, fun _ => .inr (.inr (.inl ⟨rfl, y, m, v1, v2, q3, q4, by omega, by omega, rfl, rfl⟩)), fun q => by omega, ?_⟩
   simp (disch := omega) only [ss, cond_true, cond_false, Option.bind_some, length_spec y m (by omega), e1, e2]
  ·by_cases f3 : f = 3
   ·subst f3
    have hk := wk_bd (t / 86400)
    have hm : Int.tmod (wk (t / 86400) - wkst + 7) 7 = (t / 86400 + 3 - wkst) % 7 := by
     rw [tmn (by omega)]
     unfold wk
     omega
    have e6 : t / 86400 - (t / 86400 + 3 - wkst) % 7 + 7 - 1 = t / 86400 - (t / 86400 + 3 - wkst) % 7 + 6 := by omega
    refine ⟨_, _, fun _ => .inr (.inr (.inr (.inl ⟨rfl, rfl, rfl⟩))), fun q => by omega, ?_⟩
    simp (disch := omega) only [ss, cond_true, cond_false, Option.bind_some, hm, e6, cut_spec]
   ·refine ⟨t / 86400, t / 86400, fun q => .inr (.inr (.inr (.inr ⟨by omega, rfl, rfl⟩))), fun _ => ⟨rfl, rfl⟩, ?_⟩
    simp (disch := omega) only [ss, cond_true, cond_false, Option.bind_some]
end
end Go.GV.YtdnpbkbklnkjoaaGreatDoor
namespace Go.GV.YtdnpbkbklnkjoaaGreatDoor
open Go.Proofs
abbrev PlT := Rl × (Rl × Int × (Int × Int × Int × Int × Int × Unit) × Int × Unit) × Int × (List Int) × (List Int) × (List Int) × Unit
noncomputable def per (f w : Int) (we : List Int) (t : Int) : Int := Classical.epsilon fun k => isPer f w we t k
theorem per_is {f w : Int} {we : List Int} {t k : Int} (h : isPer f w we t k) : isPer f w we t (per f w we t) := Classical.epsilon_spec ⟨k, h⟩
theorem per_eq {f w : Int} {we : List Int} {t k : Int} (h : isPer f w we t k) : k = per f w we t :=
 Int.le_antisymm (per_mono h (per_is h) (Int.le_refl _)) (per_mono (per_is h) h (Int.le_refl _))
noncomputable def ind (p : Prop) : Bool := @decide p (Classical.propDecidable p)
theorem ind_iff {p : Prop} : ind p = true ↔ p := @decide_eq_true_iff p (Classical.propDecidable p)
theorem ind_t {p : Prop} (h : p) : ind p = true := ind_iff.2 h
theorem ind_f {p : Prop} (h : ¬ p) : ind p = false := by
 cases e : ind p with
 | false => rfl
 | true => exact absurd (ind_iff.1 e) h
noncomputable def fitsB (f wkst : Int) (mo we yd md : List Int) (dy : List Dy) (s n : Int) : Bool :=
 ind (∃ y0 m0 d0 y m d, isDate (s / 86400) y0 m0 d0 ∧ isDate n y m d ∧ fitP f wkst mo we yd md dy m0 d0 (wk (s / 86400)) n y m d)
theorem fitsB_in {f wkst : Int} {mo we yd md : List Int} {dy : List Dy} {s n : Int} (h : fitsB f wkst mo we yd md dy s n = true) : -719162 ≤ n ∧ n ≤ 2932896 := by
 unfold fitsB at h
 obtain ⟨y0, m0, d0, y, m, d, _, h, _⟩ := ind_iff.1 h
 have := date_bd h
 omega
structure PlanOK (P : PlT) (r : Rl) (s : Int) (F : Int → Bool) (pr : Int → Int) (h m c : List Int) : Prop where
 dmk : days_Make.f r s = some (P.2.1, true, ())
 er : P.1 = r
 es : P.2.2.1 = s
 eh : P.2.2.2.1 = h
 em : P.2.2.2.2.1 = m
 ec : P.2.2.2.2.2.1 = c
 inS : inT s
 fits : ∀ n, days_Plan_Fits.f P.2.1 n = some (F n, ())
 fin : ∀ n, F n = true → -719162 ≤ n ∧ n ≤ 2932896
 period : ∀ t, inT t → days_Plan_Period.f P.2.1 t = some (pr t - pr s, ())
 days : ∀ t, inT t → ∃ A B, days_Plan_Days.f P.2.1 t = some (A, B, ()) ∧ (A ≤ t / 86400 ∧ t / 86400 ≤ B ∧ -719162 ≤ A ∧ B ≤ 2932896) ∧ (r.1 ≤ 4 → ∀ x, inT x → (pr x = pr t ↔ A ≤ x / 86400 ∧ x / 86400 ≤ B)) ∧ (4 < r.1 → A = t / 86400 ∧ B = t / 86400)
 p5 : r.1 = 5 → ∀ t, inT t → pr t = t / 3600
 p6 : r.1 = 6 → ∀ t, inT t → pr t = t / 60
 p7 : r.1 = 7 → ∀ t, inT t → pr t = t
 mono : ∀ t t', inT t → inT t' → t ≤ t' → pr t ≤ pr t'
 bd : ∀ t, inT t → -300000000000 ≤ pr t ∧ pr t ≤ 300000000000
 oh : okT h 23
 om : okT m 59
 oc : okT c 59
 fr : 1 ≤ r.1 ∧ r.1 ≤ 7
 iv : 1 ≤ r.2.1 ∧ r.2.1 ≤ 1000
 lp : r.2.2.2.2.2.2.2.2.2.2.2.2.2.2.1.length ≤ 1000
section
variable (f iv ct un wkst : Int) (en : Bool) (mo we yd md : List Int) (dy : List Dy) (ho mi se po : List Int)
theorem fits_val (s sec n y0 m0 d0 : Int) (hs : short mo we yd md dy ho mi se po) (hw : 0 ≤ wkst ∧ wkst ≤ 6) (h0 : isDate (s / 86400) y0 m0 d0) :
  days_Plan_Fits.f ((f, iv, ct, un, wkst, en, mo, we, yd, md, dy, ho, mi, se, po, ()), s, (s / 86400, y0, m0, d0, wk (s / 86400), ()), sec, ()) n = some (fitsB f wkst mo we yd md dy s n, ()) := by
 by_cases c : -719162 ≤ n ∧ n ≤ 2932896
 ·obtain ⟨y, m, d, h, e, _⟩ := date_spec n c.1 c.2
  obtain ⟨b, h1, h2⟩ := plan_fits f iv ct un wkst en mo we yd md dy ho mi se po s sec (s / 86400) y0 m0 d0 (wk (s / 86400)) n y m d hs hw h e
  rw [h1]
  have : fitsB f wkst mo we yd md dy s n = b := by
   unfold fitsB
   cases b with
   | true => exact ind_t ⟨y0, m0, d0, y, m, d, h0, h, h2.1 rfl⟩
   | false =>
    refine ind_f fun ⟨y0', m0', d0', y', m', d', g0, g, q⟩ => ?_
    obtain ⟨rfl, rfl, rfl⟩ := date_uniq g0 h0
    obtain ⟨rfl, rfl, rfl⟩ := date_uniq g h
    exact absurd (h2.2 q) (by simp)
  rw [this]
 ·rw [plan_none f iv ct un wkst en mo we yd md dy ho mi se po s sec (s / 86400) y0 m0 d0 (wk (s / 86400)) n c]
  have : fitsB f wkst mo we yd md dy s n = false := by
   cases hq : fitsB f wkst mo we yd md dy s n with
   | false => rfl
   | true => exact absurd (fitsB_in hq) c
  rw [this]
def hoursL (s : Int) : List Int := tms ho (decide (f ≤ 4)) (s % 86400 / 3600) 24
def minsL (s : Int) : List Int := tms mi (decide (f ≤ 5)) (s % 86400 / 60 % 60) 60
def secsL (s : Int) : List Int := tms se (decide (f ≤ 6)) (s % 86400 % 60) 60
theorem plan_ok (s : Int) (hs : short mo we yd md dy ho mi se po) (hM : rule_May.f (f, iv, ct, un, wkst, en, mo, we, yd, md, dy, ho, mi, se, po, ()) = some (true, ())) (ht : inT s) :
  ∃ P : PlT, member_Make.f (f, iv, ct, un, wkst, en, mo, we, yd, md, dy, ho, mi, se, po, ()) s = some (P, true, ()) ∧
   PlanOK P (f, iv, ct, un, wkst, en, mo, we, yd, md, dy, ho, mi, se, po, ()) s (fitsB f wkst mo we yd md dy s) (per f wkst we) (hoursL f ho s) (minsL f mi s) (secsL f se s) := by
 have hp := may_p (r := (f, iv, ct, un, wkst, en, mo, we, yd, md, dy, ho, mi, se, po, ())) hs hM
 dsimp only at hp
 have hf : 1 ≤ f ∧ f ≤ 7 := ⟨hp.1.1.1, hp.1.1.2.1⟩
 have hw : 0 ≤ wkst ∧ wkst ≤ 6 := ⟨hp.1.1.2.2.2.2.2.2.1, hp.1.1.2.2.2.2.2.2.2⟩
 have hl : we.length ≤ 100000 := hs.2.1
 obtain ⟨y0, m0, d0, h0, e0, _⟩ := date_spec (s / 86400) (inT_day ht).1 (inT_day ht).2
 have hMk := make_ok _ s hM ht y0 m0 d0 e0
 obtain ⟨sec, hsec⟩ : ∃ x, x = s % 86400 := ⟨_, rfl⟩
 have hs1 : 0 ≤ sec ∧ sec ≤ 86399 := by omega
 have g1 : days_some.f ho (decide (f ≤ 4)) (sec / 3600) 24 = some (hoursL f ho s, ()) := by rw [hsec]; exact (some_val ho (decide (f ≤ 4)) (s % 86400 / 3600) 24 (by have := hp.2.1.2.2.2.2.1.2; omega) (by omega)).1
 have g2 : days_some.f mi (decide (f ≤ 5)) (sec / 60 % 60) 60 = some (minsL f mi s, ()) := by rw [hsec]; exact (some_val mi (decide (f ≤ 5)) (s % 86400 / 60 % 60) 60 (by have := hp.2.1.2.2.2.2.2.1.2; omega) (by omega)).1
 have g3 : days_some.f se (decide (f ≤ 6)) (sec % 60) 60 = some (secsL f se s, ()) := by rw [hsec]; exact (some_val se (decide (f ≤ 6)) (s % 86400 % 60) 60 (by have := hp.2.1.2.2.2.2.2.2.1.2; omega) (by omega)).1
 have t1 : IntKind.i64.wrap (Int.tdiv sec 3600) = sec / 3600 := by rw [tdn hs1.1, wr (by omega) (by omega)]
 have t2 : Int.tmod (IntKind.i64.wrap (Int.tdiv sec 60)) 60 = sec / 60 % 60 := by rw [tdn hs1.1, wr (by omega) (by omega), tmn (by omega)]
 have t3 : Int.tmod sec 60 = sec % 60 := tmn hs1.1 _
 rw [← hsec] at hMk
 refine ⟨((f, iv, ct, un, wkst, en, mo, we, yd, md, dy, ho, mi, se, po, ()), ((f, iv, ct, un, wkst, en, mo, we, yd, md, dy, ho, mi, se, po, ()), s, (s / 86400, y0, m0, d0, wk (s / 86400), ()), sec, ()), s, hoursL f ho s, minsL f mi s, secsL f se s, ()), ?_, ?_⟩
 ·rw [member_Make.f_eq, hMk]
  simp (disch := omega) only [ss, cond_true, cond_false, Option.bind_some, days_Plan_Times.f_eq, t1, t2, t3, g1, g2, g3]
 have hper : ∀ t, inT t → isPer f wkst we t (per f wkst we t) ∧ (-300000000000 ≤ per f wkst we t ∧ per f wkst we t ≤ 300000000000) ∧ days_number.f (f, iv, ct, un, wkst, en, mo, we, yd, md, dy, ho, mi, se, po, ()) t = some (per f wkst we t + off f wkst, ()) := fun t h => by
  obtain ⟨k, k1, k2, k3, _⟩ := num_both f iv ct un wkst en mo we yd md dy ho mi se po t h hf hw hl
  have e := per_eq k1
  subst e
  exact ⟨k1, k2, k3⟩
 have hoff : 0 ≤ off f wkst ∧ off f wkst ≤ 2932896 := by unfold off; split <;> (try split) <;> omega
 refine { dmk := hMk, er := rfl, es := rfl, eh := rfl, em := rfl, ec := rfl, inS := ht, fits := fun n => ?_, fin := fun n h => fitsB_in h, period := fun t h => ?_, days := fun t h => ?_, p5 := fun q t h => ?_, p6 := fun q t h => ?_, p7 := fun q t h => ?_, mono := fun t t' h h' q => ?_, bd := fun t h => (hper t h).2.1, oh := ?_, om := ?_, oc := ?_, fr := hf, iv := ⟨hp.1.1.2.2.1, hp.1.1.2.2.2.1⟩, lp := ?_ }
 ·exact fits_val f iv ct un wkst en mo we yd md dy ho mi se po s sec n y0 m0 d0 hs hw h0
 ·have a := hper t h
  have b := hper s ht
  have e : per f wkst we t + off f wkst - (per f wkst we s + off f wkst) = per f wkst we t - per f wkst we s := by omega
  rw [days_Plan_Period.f_eq]
  simp (disch := omega) only [ss, cond_true, cond_false, Option.bind_some, a.2.2, b.2.2, e]
 ·obtain ⟨A, B, h1, h2, h3⟩ := plan_days f iv ct un wkst en mo we yd md dy ho mi se po s sec (s / 86400) y0 m0 d0 (wk (s / 86400)) t h hf hw hl
  have hd := inT_day h
  refine ⟨A, B, h3, ?_, fun q x hx => ?_, h2⟩
  ·by_cases c : f ≤ 4
   ·have := iv_bd (h1 c) hd
    omega
   ·have := h2 (by omega)
    omega
  ·have hx' := inT_day hx
   have q : f ≤ 4 := q
   have hn : ∀ t, inT t → isNum f wkst we (t / 86400) (per f wkst we t) := fun t h => by
    rcases (hper t h).1 with ⟨_, a⟩ | ⟨z, _⟩ | ⟨z, _⟩ | ⟨z, _⟩
    ·exact a
    ·omega
    ·omega
    ·omega
   have hb := iv_bd (h1 q) hd
   refine ⟨fun z => ?_, fun z => (iv_num (h1 q) (hn t h) (hn x hx) hx').1 z⟩
   refine Classical.byContradiction fun hc => ?_
   rcases (show x / 86400 ≤ A - 1 ∨ B + 1 ≤ x / 86400 by omega) with g | g
   ·have ht1 : inT ((A - 1) * 86400) := by unfold inT; omega
    have n1 := hn _ ht1
    have e : (A - 1) * 86400 / 86400 = A - 1 := by omega
    rw [e] at n1
    have k1 := (iv_num (h1 q) (hn t h) n1 (by omega)).2.1 rfl
    have k2 := num_mono (hn x hx) n1 g
    omega
   ·have ht1 : inT ((B + 1) * 86400) := by unfold inT; omega
    have n1 := hn _ ht1
    have e : (B + 1) * 86400 / 86400 = B + 1 := by omega
    rw [e] at n1
    have k1 := (iv_num (h1 q) (hn t h) n1 (by omega)).2.2 rfl
    have k2 := num_mono n1 (hn x hx) g
    omega
 ·have q : f = 5 := q
  rcases (hper t h).1 with ⟨z, _⟩ | ⟨_, z⟩ | ⟨z, _⟩ | ⟨z, _⟩
  ·omega
  ·exact z
  ·omega
  ·omega
 ·have q : f = 6 := q
  rcases (hper t h).1 with ⟨z, _⟩ | ⟨z, _⟩ | ⟨_, z⟩ | ⟨z, _⟩
  ·omega
  ·omega
  ·exact z
  ·omega
 ·have q : f = 7 := q
  rcases (hper t h).1 with ⟨z, _⟩ | ⟨z, _⟩ | ⟨z, _⟩ | ⟨_, z⟩
  ·omega
  ·omega
  ·omega
  ·exact z
 ·exact per_mono (hper t h).1 (hper t' h').1 q
 ·exact tms_ok ho _ _ 23 24 hp.2.1.2.2.2.2.1 (by omega) (by omega) (by omega)
 ·exact tms_ok mi _ _ 59 60 hp.2.1.2.2.2.2.2.1 (by omega) (by omega) (by omega)
 ·exact tms_ok se _ _ 59 60 hp.2.1.2.2.2.2.2.2.1 (by omega) (by omega) (by omega)
 ·have : po.length ≤ 60 := hp.2.1.2.2.2.2.2.2.2.1.2
  show po.length ≤ 1000
  omega
end
theorem plan_no (r : Rl) (s : Int) (b : Bool) (hM : rule_May.f r = some (b, ())) (h : ¬ (b = true ∧ inT s)) :
  ∃ P : PlT, member_Make.f r s = some (P, false, ()) := by
 rw [member_Make.f_eq, make_no r s b hM h]
 exact ⟨_, by simp (disch := omega) only [ss, cond_true, cond_false, Option.bind_some]; rfl⟩
end Go.GV.YtdnpbkbklnkjoaaGreatDoor
namespace Go.GV.YtdnpbkbklnkjoaaGreatDoor
open Go.Proofs
theorem take_step {α : Type} (M : Nat) (l a b : List α) (h : l.length ≤ M) : (l ++ a.take (M - l.length + 1) ++ b).take (M + 1) = (l ++ (a ++ b)).take (M + 1) := by
 by_cases c : a.length ≤ M - l.length + 1
 ·rw [List.take_of_length_le c, List.append_assoc]
 ·have e1 : (l ++ a.take (M - l.length + 1)).length = M + 1 := by
   rw [List.length_append, List.length_take]
   omega
  rw [List.take_append_of_le_length (by omega), List.take_of_length_le (by omega), List.take_append, List.take_append_of_le_length (by omega), List.take_of_length_le (show l.length ≤ M + 1 by omega)]
  congr 2
  omega
theorem take_full {α : Type} (M : Nat) (l a : List α) (h : l.length = M + 1) : (l ++ a).take (M + 1) = l := by
 rw [List.take_append_of_le_length (by omega), List.take_of_length_le (by omega)]
section
variable (lo hi d : Int)
def sel (a b : Int) (ss : List Int) : List Int := (ss.filter fun s => decide (lo ≤ 3600 * a + 60 * b + s) && decide (3600 * a + 60 * b + s < hi)).map fun s => d * 86400 + (3600 * a + 60 * b + s)
theorem sel_nil (a b : Int) (ss : List Int) (h : ∀ s, s ∈ ss → ¬ (lo ≤ 3600 * a + 60 * b + s ∧ 3600 * a + 60 * b + s < hi)) : sel lo hi d a b ss = [] := by
 unfold sel
 rw [List.map_eq_nil_iff, List.filter_eq_nil_iff]
 intro s hs
 rw [Bool.and_eq_true, decide_eq_true_eq, decide_eq_true_eq]
 exact h s hs
def selH (m c : List Int) (a : Int) : List Int := m.flatMap fun b => sel lo hi d a b c
theorem day_sel (h m c : List Int) : dayL h m c lo hi d = h.flatMap (selH lo hi d m c) := by
 unfold dayL tod selH sel
 simp only [List.filter_flatMap, List.map_flatMap, List.filter_map, List.map_map]
 rfl
variable (P : PlT) (M : Nat) (hM : M ≤ 200000) (hlo : 0 ≤ lo ∧ lo ≤ 100000) (hhi : 0 ≤ hi ∧ hi ≤ 100000) (hd : -1000000 ≤ d ∧ d ≤ 4000000)
 (oh : okT P.2.2.2.1 23) (om : okT P.2.2.2.2.1 59) (oc : okT P.2.2.2.2.2.1 59)
include hM hlo hhi hd oh om oc
theorem day_l5 (i j : Nat) (a b : Int) (ha : 0 ≤ a ∧ a ≤ 23) (hb : 0 ≤ b ∧ b ≤ 59) (hj : j < P.2.2.2.2.1.length) (rest : List Int)
  (C : ∀ l : List Int, l.length ≤ M → member_Plan_Day.l3 d lo hi M a P.2.2.2.1 (P.2.2.2.1.length : Int) i P.2.2.2.2.1 (P.2.2.2.2.1.length : Int) ((j + 1 : Nat) : Int) P l = some ((l ++ rest).take (M + 1), (), ())) :
  ∀ (n k : Nat), P.2.2.2.2.2.1.length - k = n → k ≤ P.2.2.2.2.2.1.length → ∀ l : List Int, l.length ≤ M →
   member_Plan_Day.l5 d lo hi M a (3600 * a + 60 * b) P.2.2.2.1 (P.2.2.2.1.length : Int) i P.2.2.2.2.1 (P.2.2.2.2.1.length : Int) j P.2.2.2.2.2.1 (P.2.2.2.2.2.1.length : Int) k P l = some ((l ++ (sel lo hi d a b (P.2.2.2.2.2.1.drop k) ++ rest)).take (M + 1), (), ()) := by
 have hlim : limit = 17179869184 := rfl
 have lh := oh.2.2
 have lm := om.2.2
 have lc := oc.2.2
 intro n
 induction n with
 | zero =>
  intro k hk hkl l hl
  have e : k = P.2.2.2.2.2.1.length := by omega
  subst e
  have := C l hl
  rw [Int.natCast_add, Int.natCast_one] at this
  rw [member_Plan_Day.l5_eq]
  simp (disch := omega) only [ss, cond_true, cond_false, Option.bind_some]
  rw [this, List.drop_length]
  rfl
 | succ n ih =>
  intro k hk hkl l hl
  have hlt : k < P.2.2.2.2.2.1.length := by omega
  have hs := oc.2.1 _ (get_mem hlt)
  have ih' := ih (k + 1) (by omega) (by omega)
  rw [Int.natCast_add, Int.natCast_one] at ih'
  rw [member_Plan_Day.l5_eq, Int.toNat_natCast, drop_getD' 0 hlt]
  generalize P.2.2.2.2.2.1.getD k 0 = s at hs ⊢
  by_cases c1 : 3600 * a + 60 * b + s < lo
  ·have e : sel lo hi d a b (s :: P.2.2.2.2.2.1.drop (k + 1)) = sel lo hi d a b (P.2.2.2.2.2.1.drop (k + 1)) := by
    unfold sel
    rw [List.filter_cons_of_neg (by rw [dn (show ¬ lo ≤ 3600 * a + 60 * b + s by omega)]; simp)]
   rw [e]
   simp (disch := omega) only [ss, cond_true, cond_false, Option.bind_some, member_Plan_Day.l6_eq]
   exact ih' l hl
  ·by_cases c2 : 3600 * a + 60 * b + s ≥ hi
   ·have e : sel lo hi d a b (s :: P.2.2.2.2.2.1.drop (k + 1)) = sel lo hi d a b (P.2.2.2.2.2.1.drop (k + 1)) := by
     unfold sel
     rw [List.filter_cons_of_neg (by rw [dn (show ¬ 3600 * a + 60 * b + s < hi by omega)]; simp)]
    rw [e]
    simp (disch := omega) only [ss, cond_true, cond_false, Option.bind_some, member_Plan_Day.l6_eq]
    exact ih' l hl
   ·have e : sel lo hi d a b (s :: P.2.2.2.2.2.1.drop (k + 1)) = (d * 86400 + (3600 * a + 60 * b + s)) :: sel lo hi d a b (P.2.2.2.2.2.1.drop (k + 1)) := by
     unfold sel
     rw [List.filter_cons_of_pos (by rw [dp (show lo ≤ 3600 * a + 60 * b + s by omega), dp (show 3600 * a + 60 * b + s < hi by omega)]; rfl)]
     rfl
    rw [e]
    have ea : d * 86400 + (3600 * a + 60 * b) + s = d * 86400 + (3600 * a + 60 * b + s) := by omega
    have hlen : (l ++ [d * 86400 + (3600 * a + 60 * b + s)]).length = l.length + 1 := len_snoc _ _
    have eapp : ∀ x : List Int, l ++ ((d * 86400 + (3600 * a + 60 * b + s)) :: x ++ rest) = l ++ [d * 86400 + (3600 * a + 60 * b + s)] ++ (x ++ rest) := fun x => by simp
    rw [eapp]
    by_cases c3 : l.length = M
    ·simp (disch := omega) only [ss, cond_true, cond_false, Option.bind_some, member_Plan_Day.l6_eq, member_all.f_eq, ea, hlen, List.length_singleton, hlim]
     rw [take_full _ _ _ (by rw [hlen, c3])]
    ·simp (disch := omega) only [ss, cond_true, cond_false, Option.bind_some, member_Plan_Day.l6_eq, member_all.f_eq, ea, hlen, List.length_singleton, hlim]
     exact ih' _ (by rw [hlen]; omega)
theorem day_l3 (i : Nat) (a : Int) (ha : 0 ≤ a ∧ a ≤ 23) (hi' : i < P.2.2.2.1.length) (rest : List Int)
  (C : ∀ l : List Int, l.length ≤ M → member_Plan_Day.l1 d lo hi M P.2.2.2.1 (P.2.2.2.1.length : Int) ((i + 1 : Nat) : Int) P l = some ((l ++ rest).take (M + 1), (), ())) :
  ∀ (n j : Nat), P.2.2.2.2.1.length - j = n → j ≤ P.2.2.2.2.1.length → ∀ l : List Int, l.length ≤ M →
   member_Plan_Day.l3 d lo hi M a P.2.2.2.1 (P.2.2.2.1.length : Int) i P.2.2.2.2.1 (P.2.2.2.2.1.length : Int) j P l = some ((l ++ ((P.2.2.2.2.1.drop j).flatMap (fun b => sel lo hi d a b P.2.2.2.2.2.1) ++ rest)).take (M + 1), (), ()) := by
 have lh := oh.2.2
 have lm := om.2.2
 have lc := oc.2.2
 intro n
 induction n with
 | zero =>
  intro j hj hjl l hl
  have e : j = P.2.2.2.2.1.length := by omega
  subst e
  have := C l hl
  rw [Int.natCast_add, Int.natCast_one] at this
  rw [member_Plan_Day.l3_eq]
  simp (disch := omega) only [ss, cond_true, cond_false, Option.bind_some]
  rw [this, List.drop_length]
  rfl
 | succ n ih =>
  intro j hj hjl l hl
  have hlt : j < P.2.2.2.2.1.length := by omega
  have hb := om.2.1 _ (get_mem hlt)
  have ih' := ih (j + 1) (by omega) (by omega)
  have ih2 := ih'
  rw [Int.natCast_add, Int.natCast_one] at ih2
  rw [member_Plan_Day.l3_eq, Int.toNat_natCast, drop_getD' 0 hlt, List.flatMap_cons]
  generalize P.2.2.2.2.1.getD j 0 = b at hb ⊢
  by_cases c1 : 3600 * a + 60 * b + 59 < lo
  ·rw [sel_nil lo hi d a b _ (fun s hs => by have := oc.2.1 s hs; omega)]
   simp (disch := omega) only [ss, cond_true, cond_false, Option.bind_some, member_Plan_Day.l4_eq]
   exact ih2 l hl
  ·by_cases c2 : 3600 * a + 60 * b ≥ hi
   ·rw [sel_nil lo hi d a b _ (fun s hs => by have := oc.2.1 s hs; omega)]
    simp (disch := omega) only [ss, cond_true, cond_false, Option.bind_some, member_Plan_Day.l4_eq]
    exact ih2 l hl
   ·have h5 := day_l5 lo hi d P M hM hlo hhi hd oh om oc i j a b ha hb hlt _ ih' P.2.2.2.2.2.1.length 0 (by omega) (Nat.zero_le _) l hl
    rw [Int.natCast_zero, List.drop_zero] at h5
    simp (disch := omega) only [ss, cond_true, cond_false, Option.bind_some, member_Plan_Day.l4_eq]
    rw [h5, List.append_assoc]
theorem day_l1 : ∀ (n i : Nat), P.2.2.2.1.length - i = n → i ≤ P.2.2.2.1.length → ∀ l : List Int, l.length ≤ M →
   member_Plan_Day.l1 d lo hi M P.2.2.2.1 (P.2.2.2.1.length : Int) i P l = some ((l ++ (P.2.2.2.1.drop i).flatMap (selH lo hi d P.2.2.2.2.1 P.2.2.2.2.2.1)).take (M + 1), (), ()) := by
 have lh := oh.2.2
 have lm := om.2.2
 have lc := oc.2.2
 intro n
 induction n with
 | zero =>
  intro i hin hil l hl
  have e : i = P.2.2.2.1.length := by omega
  subst e
  rw [member_Plan_Day.l1_eq]
  simp (disch := omega) only [ss, cond_true, cond_false, Option.bind_some]
  rw [List.drop_length, List.flatMap_nil, List.append_nil, List.take_of_length_le (by omega)]
 | succ n ih =>
  intro i hin hil l hl
  have hlt : i < P.2.2.2.1.length := by omega
  have ha := oh.2.1 _ (get_mem hlt)
  have ih' := ih (i + 1) (by omega) (by omega)
  have ih2 := ih'
  rw [Int.natCast_add, Int.natCast_one] at ih2
  rw [member_Plan_Day.l1_eq, Int.toNat_natCast, drop_getD' 0 hlt, List.flatMap_cons]
  generalize P.2.2.2.1.getD i 0 = a at ha ⊢
  have hnil : (∀ x : Int, 0 ≤ x → x ≤ 3599 → ¬ (lo ≤ 3600 * a + x ∧ 3600 * a + x < hi)) → selH lo hi d P.2.2.2.2.1 P.2.2.2.2.2.1 a = [] := fun q => by
   unfold selH
   rw [List.flatMap_eq_nil_iff]
   intro b hb
   refine sel_nil lo hi d a b _ fun s hs => ?_
   have := oc.2.1 s hs
   have := om.2.1 b hb
   have := q (60 * b + s) (by omega) (by omega)
   omega
  by_cases c1 : 3600 * a + 3599 < lo
  ·rw [hnil (fun x h1 h2 => by omega)]
   simp (disch := omega) only [ss, cond_true, cond_false, Option.bind_some, member_Plan_Day.l2_eq]
   exact ih2 l hl
  ·by_cases c2 : 3600 * a ≥ hi
   ·rw [hnil (fun x h1 h2 => by omega)]
    simp (disch := omega) only [ss, cond_true, cond_false, Option.bind_some, member_Plan_Day.l2_eq]
    exact ih2 l hl
   ·have h3 := day_l3 lo hi d P M hM hlo hhi hd oh om oc i a ha hlt _ ih' P.2.2.2.2.1.length 0 (by omega) (Nat.zero_le _) l hl
    rw [Int.natCast_zero, List.drop_zero] at h3
    simp (disch := omega) only [ss, cond_true, cond_false, Option.bind_some, member_Plan_Day.l2_eq]
    exact h3
theorem day_val : member_Plan_Day.f P d lo hi M () = some ((dayL P.2.2.2.1 P.2.2.2.2.1 P.2.2.2.2.2.1 lo hi d).take (M + 1), (), ()) := by
 have h := day_l1 lo hi d P M hM hlo hhi hd oh om oc P.2.2.2.1.length 0 (by omega) (Nat.zero_le _) [] (Nat.zero_le _)
 rw [Int.natCast_zero, List.drop_zero, List.nil_append] at h
 rw [member_Plan_Day.f_eq, day_sel]
 exact h
end
theorem set_l1 (P : PlT) (r : Rl) (s : Int) (F : Int → Bool) (pr : Int → Int) (h m c : List Int) (hP : PlanOK P r s F pr h m c) (lo hi B : Int) (M : Nat) (hM : M ≤ 200000) (hlo : 0 ≤ lo ∧ lo ≤ 100000) (hhi : 0 ≤ hi ∧ hi ≤ 100000) (hB : B ≤ 2932896) :
  ∀ (n : Nat) (d : Int), (B + 1 - d).toNat = n → -719162 ≤ d → ∀ l : List Int, l.length ≤ M + 1 → member_Plan_Set.l1 M lo hi B d P l = some ((l ++ setF F h m c lo hi n d).take (M + 1), ()) := by
 have hlim : limit = 17179869184 := rfl
 intro n
 induction n with
 | zero =>
  intro d hn hd l hl
  rw [member_Plan_Set.l1_eq, dn (show ¬ d ≤ B by omega), cond_false, member_Plan_Set.l2_eq, cond_false]
  show _ = some ((l ++ []).take (M + 1), ())
  rw [List.append_nil, List.take_of_length_le hl]
 | succ n ih =>
  intro d hn hd l hl
  have hdB : d ≤ B := by omega
  rw [member_Plan_Set.l1_eq, dp hdB, cond_true, member_Plan_Set.l2_eq]
  by_cases c1 : l.length = M + 1
  ·rw [dn (show ¬ (l.length : Int) ≤ M by omega), cond_false, take_full _ _ _ c1]
  ·have hl' : l.length ≤ M := by omega
   rw [dp (show (l.length : Int) ≤ M by omega), cond_true, member_Plan_Fits.f_eq, hP.fits d]
   have hw : IntKind.i64.wrap (d + 1) = d + 1 := wr (by omega) (by omega)
   have hwl : IntKind.i64.wrap ((M : Int) - (l.length : Int)) = ((M - l.length : Nat) : Int) := by rw [wr (by omega) (by omega)]; omega
   simp only [Option.bind_some, hw, hwl]
   unfold setF
   cases hF : F d with
   | false =>
    rw [cond_false, if_neg (by simp)]
    exact ih (d + 1) (by omega) (by omega) l hl
   | true =>
    have hday := day_val lo hi d P (M - l.length) (by omega) hlo hhi ⟨by omega, by omega⟩ (by rw [hP.eh]; exact hP.oh) (by rw [hP.em]; exact hP.om) (by rw [hP.ec]; exact hP.oc)
    rw [hP.eh, hP.em, hP.ec] at hday
    rw [cond_true, if_pos rfl, hday]
    have hlen : (l ++ (dayL h m c lo hi d).take (M - l.length + 1)).length ≤ M + 1 := by
     rw [List.length_append, List.length_take]
     omega
    rw [List.length_append] at hlen
    simp only [Option.bind_some]
    rw [dp (by omega), cond_true, ih (d + 1) (by omega) (by omega) _ (by rw [List.length_append]; exact hlen), take_step _ _ _ _ hl']
theorem half {a b : Nat} (h : a + b < 4611686018427387904) : IntKind.i64.wrap (shrI .u64 (IntKind.u64.wrap (IntKind.i64.wrap ((a : Int) + (b : Int)))) 1) = (((a + b) / 2 : Nat) : Int) := by
 rw [wr (x := (a : Int) + (b : Int)) (by omega) (by omega), Go.IntWalk.u64_in ((a : Int) + (b : Int)) (by omega)]
 have e : shrI .u64 ((a : Int) + (b : Int)) 1 = (((a + b) / 2 : Nat) : Int) := by
  show Int.fdiv ((a : Int) + (b : Int)) (2 ^ (min (1 : Int).toNat 64)) = _
  rw [show min (1 : Int).toNat 64 = 1 from rfl, show (2 : Int) ^ 1 = 2 from rfl, Int.fdiv_eq_ediv_of_nonneg _ (by decide)]
  omega
 rw [e, wr (by omega) (by omega)]
theorem less_int (a b : Int) : cmp_Less_int.f a b = some (decide (a < b), ()) := by
 rw [cmp_Less_int.f_eq]
 simp (disch := omega) only [ss, cond_true, cond_false, Option.bind_some, cmp_isNaN_int.f_eq, ne_eq, not_true_eq_false]
theorem nan_int (a : Int) : slices_isNaN_int.f a = some (false, ()) := by
 rw [slices_isNaN_int.f_eq]
 simp (disch := omega) only [ss, cond_true, cond_false, Option.bind_some, ne_eq, not_true_eq_false]
theorem bs_l1 {l : List Int} (hl : l.length ≤ 1000000) (hr : Rise l) (t : Int) : ∀ (k a b : Nat), b - a ≤ k → a ≤ b → b ≤ l.length → (∀ j, j < a → l.getD j 0 < t) → (∀ j, b ≤ j → j < l.length → t ≤ l.getD j 0) →
  ∃ i : Nat, slices_BinarySearch_int_int.l1 l t (l.length : Int) a b = some ((i : Int), decide (i < l.length ∧ l.getD i 0 = t), ()) ∧ i ≤ l.length ∧ (∀ j, j < i → l.getD j 0 < t) ∧ (∀ j, i ≤ j → j < l.length → t ≤ l.getD j 0) := by
 have done : ∀ a : Nat, a ≤ l.length → (∀ j, j < a → l.getD j 0 < t) → (∀ j, a ≤ j → j < l.length → t ≤ l.getD j 0) → ∃ i : Nat, slices_BinarySearch_int_int.l1 l t (l.length : Int) a a = some ((i : Int), decide (i < l.length ∧ l.getD i 0 = t), ()) ∧ i ≤ l.length ∧ (∀ j, j < i → l.getD j 0 < t) ∧ (∀ j, i ≤ j → j < l.length → t ≤ l.getD j 0) := by
  intro a ha h1 h3
  rw [slices_BinarySearch_int_int.l1_eq]
  refine ⟨a, ?_, ha, h1, h3⟩
  by_cases hc : a < l.length
  ·by_cases he : l.getD a 0 = t
   ·rw [dp (show a < l.length ∧ l.getD a 0 = t from ⟨hc, he⟩)]
    simp (disch := omega) only [ss, cond_true, cond_false, Option.bind_some]
   ·rw [dn (show ¬ (a < l.length ∧ l.getD a 0 = t) from fun q => he q.2)]
    simp (disch := omega) only [ss, cond_true, cond_false, Option.bind_some, nan_int]
  ·rw [dn (show ¬ (a < l.length ∧ l.getD a 0 = t) from fun q => hc q.1)]
   simp (disch := omega) only [ss, cond_true, cond_false, Option.bind_some]
 intro k
 induction k with
 | zero =>
  intro a b hk hab hb h1 h3
  have e : a = b := by omega
  subst e
  exact done a hb h1 h3
 | succ k ih =>
  intro a b hk hab hb h1 h3
  by_cases he : a = b
  ·subst he; exact done a hb h1 h3
  ·rw [slices_BinarySearch_int_int.l1_eq, half (by omega)]
   have hm1 : a ≤ (a + b) / 2 := by omega
   have hm2 : (a + b) / 2 < b := by omega
   generalize (a + b) / 2 = m at hm1 hm2
   simp (disch := omega) only [ss, cond_true, cond_false, Option.bind_some, less_int]
   by_cases hm : l.getD m 0 < t
   ·simp (disch := omega) only [ss, cond_true, cond_false, Option.bind_some]
    refine ih (m + 1) b (by omega) (by omega) hb (fun j hj => ?_) h3
    by_cases hjm : j = m
    ·subst hjm; exact hm
    ·have := rise_get hr (show j < m by omega) (by omega)
     omega
   ·simp (disch := omega) only [ss, cond_true, cond_false, Option.bind_some]
    refine ih a m (by omega) hm1 (by omega) h1 fun j hj1 hj2 => ?_
    by_cases hjm : j = m
    ·subst hjm; omega
    ·have := rise_get hr (show m < j by omega) hj2
     omega
theorem bs_val {l : List Int} (hl : l.length ≤ 1000000) (hr : Rise l) (t : Int) : ∃ i : Nat, slices_BinarySearch_int_int.f l t = some ((i : Int), decide (i < l.length ∧ l.getD i 0 = t), ()) ∧ i ≤ l.length ∧ (t ∈ l → i < l.length ∧ l.getD i 0 = t) := by
 obtain ⟨i, h1, h2, h3, h4⟩ := bs_l1 hl hr t l.length 0 l.length (by omega) (Nat.zero_le _) (Nat.le_refl _) (fun j hj => absurd hj (by omega)) (fun j h1 h2 => absurd h1 (by omega))
 rw [slices_BinarySearch_int_int.f_eq]
 refine ⟨i, h1, h2, fun hm => ?_⟩
 obtain ⟨j, hj, e⟩ := mem_get hm
 have hij : i ≤ j := by
  refine Classical.byContradiction fun c => ?_
  have := h3 j (by omega)
  omega
 by_cases c : i = j
 ·subst c
  exact ⟨hj, e⟩
 ·have := rise_get hr (show i < j by omega) hj
  have := h4 i (Nat.le_refl _) (by omega)
  omega
end Go.GV.YtdnpbkbklnkjoaaGreatDoor
namespace Go.GV.YtdnpbkbklnkjoaaGreatDoor
open Go.Proofs
section
variable {P : PlT} {r : Rl} {s : Int} {F : Int → Bool} {pr : Int → Int} {h m c : List Int} (hP : PlanOK P r s F pr h m c)
abbrev inP (iv s : Int) (pr : Int → Int) (t : Int) : Prop := Int.tmod (pr t - pr s) iv = 0
def rawP (iv s : Int) (F : Int → Bool) (pr : Int → Int) (h m c : List Int) (t : Int) : Prop := inT t ∧ t % 86400 ∈ tod h m c ∧ inP iv s pr t ∧ F (t / 86400) = true
include hP
theorem in_val (t : Int) (ht : inT t) : member_Plan_in.f P t = some (decide (inP r.2.1 s pr t), ()) := by
 have hv := hP.iv
 rw [member_Plan_in.f_eq, hP.period t ht, hP.er]
 simp (disch := omega) only [ss, cond_true, cond_false, Option.bind_some]
theorem raw_val (t : Int) (ht : inT t) : member_Plan_Raw.f P t = some (ind (rawP r.2.1 s F pr h m c t), ()) := by
 have hD := (mday_spec t (by unfold inT at ht; omega) (by unfold inT at ht; omega)).1
 have hm := mem_tod hP.om.2.1 hP.oc.2.1 (t % 86400) (h := h)
 have lh := hP.oh.2.2
 have lm := hP.om.2.2
 have lc := hP.oc.2.2
 have hs1 : 0 ≤ t % 86400 ∧ t % 86400 ≤ 86399 := by omega
 rw [member_Plan_Raw.f_eq, hD, hP.eh, hP.em, hP.ec]
 unfold rawP
 rw [hm]
 generalize t % 86400 = sec at hs1 ⊢
 have t1 : IntKind.i64.wrap (Int.tdiv sec 3600) = sec / 3600 := by rw [tdn hs1.1, wr (by omega) (by omega)]
 have t2 : Int.tmod (IntKind.i64.wrap (Int.tdiv sec 60)) 60 = sec / 60 % 60 := by rw [tdn hs1.1, wr (by omega) (by omega), tmn (by omega)]
 have t3 : Int.tmod sec 60 = sec % 60 := tmn hs1.1 _
 by_cases c1 : sec / 3600 ∈ h
 ·by_cases c2 : sec / 60 % 60 ∈ m
  ·by_cases c3 : sec % 60 ∈ c
   ·simp (disch := omega) only [ss, cond_true, cond_false, Option.bind_some, t1, t2, t3, contains_int h _ (show h.length ≤ 1000000 by omega), contains_int m _ (show m.length ≤ 1000000 by omega), contains_int c _ (show c.length ≤ 1000000 by omega), dp c1, dp c2, dp c3, in_val hP t ht]
    by_cases c4 : inP r.2.1 s pr t
    ·rw [dp c4, cond_true, member_Plan_Fits.f_eq, hP.fits]
     simp only [Option.bind_some]
     cases hf : F (t / 86400) with
     | true => rw [ind_t ⟨ht, ⟨c1, c2, c3⟩, c4, rfl⟩]
     | false => rw [ind_f (fun q => absurd q.2.2.2 (by simp))]
    ·rw [dn c4, cond_false, ind_f (fun q => c4 q.2.2.1)]
   ·simp (disch := omega) only [ss, cond_true, cond_false, Option.bind_some, t1, t2, t3, contains_int h _ (show h.length ≤ 1000000 by omega), contains_int m _ (show m.length ≤ 1000000 by omega), contains_int c _ (show c.length ≤ 1000000 by omega), dp c1, dp c2, dn c3]
    rw [ind_f (fun q => c3 q.2.1.2.2)]
  ·simp (disch := omega) only [ss, cond_true, cond_false, Option.bind_some, t1, t2, contains_int h _ (show h.length ≤ 1000000 by omega), contains_int m _ (show m.length ≤ 1000000 by omega), dp c1, dn c2]
   rw [ind_f (fun q => c2 q.2.1.2.1)]
 ·simp (disch := omega) only [ss, cond_true, cond_false, Option.bind_some, t1, contains_int h _ (show h.length ≤ 1000000 by omega), dn c1]
  rw [ind_f (fun q => c1 q.2.1.1)]
theorem set_val (t : Int) (ht : inT t) : ∃ G : List Int, Rise G ∧ (∀ x, x ∈ G ↔ rawP r.2.1 s F pr h m c x ∧ pr x = pr t) ∧
  ∀ M : Nat, M ≤ 200000 → member_Plan_Set.f P t M = some (G.take (M + 1), ()) := by
 have hd := inT_day ht
 have hD := (mday_spec t (by unfold inT at ht; omega) (by unfold inT at ht; omega)).1
 have hI := in_val hP t ht
 obtain ⟨A, B, g1, g2, g3, g4⟩ := hP.days t ht
 by_cases c1 : inP r.2.1 s pr t
 ·rw [dp c1] at hI
  have hspan : ∃ lo hi, member_Plan_span.f P t = some (lo, hi, ()) ∧ (0 ≤ lo ∧ lo ≤ 100000) ∧ (0 ≤ hi ∧ hi ≤ 100000) ∧
    ∀ x, inT x → (pr x = pr t ↔ (A ≤ x / 86400 ∧ x / 86400 ≤ B) ∧ lo ≤ x % 86400 ∧ x % 86400 < hi) := by
   have hs1 : 0 ≤ t % 86400 ∧ t % 86400 ≤ 86399 := by omega
   rw [member_Plan_span.f_eq, hD, hP.er]
   by_cases f5 : r.1 = 5
   ·have e : Int.tmod (t % 86400) 3600 = t % 86400 % 3600 := tmn hs1.1 _
    refine ⟨t % 86400 - t % 86400 % 3600, t % 86400 - t % 86400 % 3600 + 3600, by simp (disch := omega) only [ss, cond_true, cond_false, Option.bind_some, e], by omega, by omega, fun x hx => ?_⟩
    have a := g4 (by omega)
    rw [hP.p5 f5 t ht, hP.p5 f5 x hx]
    constructor <;> intro q <;> omega
   ·by_cases f6 : r.1 = 6
    ·have e : Int.tmod (t % 86400) 60 = t % 86400 % 60 := tmn hs1.1 _
     refine ⟨t % 86400 - t % 86400 % 60, t % 86400 - t % 86400 % 60 + 60, by simp (disch := omega) only [ss, cond_true, cond_false, Option.bind_some, e], by omega, by omega, fun x hx => ?_⟩
     have a := g4 (by omega)
     rw [hP.p6 f6 t ht, hP.p6 f6 x hx]
     constructor <;> intro q <;> omega
    ·by_cases f7 : r.1 = 7
     ·refine ⟨t % 86400, t % 86400 + 1, by simp (disch := omega) only [ss, cond_true, cond_false, Option.bind_some], by omega, by omega, fun x hx => ?_⟩
      have a := g4 (by omega)
      rw [hP.p7 f7 t ht, hP.p7 f7 x hx]
      constructor <;> intro q <;> omega
     ·refine ⟨0, 86400, by simp (disch := omega) only [ss, cond_true, cond_false, Option.bind_some], by omega, by omega, fun x hx => ?_⟩
      rw [g3 (by have := hP.fr; omega) x hx]
      constructor <;> intro q <;> omega
  obtain ⟨lo, hi, s1, s2, s3, s4⟩ := hspan
  refine ⟨setF F h m c lo hi (B + 1 - A).toNat A, rise_setF hP.oh.1 hP.om.1 hP.oc.1 hP.oh.2.1 hP.om.2.1 hP.oc.2.1 lo hi _ _, fun x => ?_, fun M hM => ?_⟩
  ·rw [mem_setF hP.oh.2.1 hP.om.2.1 hP.oc.2.1]
   constructor
   ·rintro ⟨q1, q2, q3, q4, q5, q6⟩
    have hx : inT x := by
     unfold inT
     omega
    have hpr := (s4 x hx).2 ⟨⟨by omega, by omega⟩, q5, q6⟩
    refine ⟨⟨hx, q4, ?_, q3⟩, hpr⟩
    unfold inP at c1 ⊢
    rw [hpr]
    exact c1
   ·rintro ⟨⟨hx, q4, _, q3⟩, hpr⟩
    have := (s4 x hx).1 hpr
    exact ⟨by omega, by omega, q3, q4, this.2⟩
  ·rw [member_Plan_Set.f_eq, hI]
   simp only [Option.bind_some, Bool.not_true, cond_false]
   rw [s1]
   simp only [Option.bind_some]
   rw [g1]
   simp only [Option.bind_some]
   exact set_l1 P r s F pr h m c hP lo hi B M hM s2 s3 (by omega) _ A rfl (by omega) [] (Nat.zero_le _)
 ·rw [dn c1] at hI
  refine ⟨[], rise_nil, fun x => ?_, fun M hM => ?_⟩
  ·constructor
   ·intro q
    exact absurd q (by simp)
   ·rintro ⟨⟨_, _, q, _⟩, e⟩
    unfold inP at c1 q
    rw [e] at q
    exact absurd q c1
  ·rw [member_Plan_Set.f_eq, hI]
   rfl
omit hP
def pickP (po : List Int) (l : List Int) (t : Int) : Prop := l.length ≤ 100000 ∧ ∃ i : Nat, i < l.length ∧ l.getD i 0 = t ∧ ((i : Int) + 1 ∈ po ∨ (i : Int) - (l.length : Int) ∈ po)
include hP
theorem picked_val (t : Int) (l : List Int) (hr : Rise l) (hl : l.length ≤ 1000000) : member_Plan_picked.f P t l = some (ind (pickP r.2.2.2.2.2.2.2.2.2.2.2.2.2.2.1 l t), ()) := by
 have lp := hP.lp
 obtain ⟨i, h1, h2, h3⟩ := bs_val hl hr t
 rw [member_Plan_picked.f_eq, h1, hP.er]
 generalize r.2.2.2.2.2.2.2.2.2.2.2.2.2.2.1 = po at lp ⊢
 simp only [Option.bind_some]
 by_cases c1 : i < l.length ∧ l.getD i 0 = t
 ·rw [dp c1, cond_true]
  by_cases c2 : l.length ≤ 100000
  ·have w1 : IntKind.i64.wrap ((i : Int) + 1) = (i : Int) + 1 := wr (by omega) (by omega)
   have w2 : IntKind.i64.wrap ((i : Int) - (l.length : Int)) = (i : Int) - (l.length : Int) := wr (by omega) (by omega)
   rw [dp (show (l.length : Int) ≤ 100000 by omega), cond_true, w1, w2, contains_int po _ (by omega), contains_int po _ (by omega)]
   simp only [Option.bind_some]
   by_cases c3 : (i : Int) + 1 ∈ po
   ·rw [dp c3, cond_true, ind_t ⟨c2, i, c1.1, c1.2, .inl c3⟩]
   ·rw [dn c3, cond_false]
    by_cases c4 : (i : Int) - (l.length : Int) ∈ po
    ·rw [dp c4, ind_t ⟨c2, i, c1.1, c1.2, .inr c4⟩]
    ·rw [dn c4, ind_f]
     rintro ⟨_, j, j1, j2, j3⟩
     have e : i = j := rise_idx hr c1.1 j1 (by rw [c1.2, j2])
     subst e
     rcases j3 with j3 | j3
     ·exact c3 j3
     ·exact c4 j3
  ·rw [dn (show ¬ (l.length : Int) ≤ 100000 by omega), cond_false, ind_f (fun q => c2 q.1)]
 ·rw [dn c1, cond_false, ind_f]
  rintro ⟨_, j, j1, j2, _⟩
  refine c1 (h3 ?_)
  rw [← j2]
  exact get_mem j1
end
def belP (iv un : Int) (en : Bool) (po : List Int) (s : Int) (F : Int → Bool) (pr : Int → Int) (h m c : List Int) (t : Int) : Prop :=
 rawP iv s F pr h m c t ∧ s ≤ t ∧ (en = true → t ≤ un) ∧
  (po = [] ∨ ∃ G : List Int, Rise G ∧ (∀ x, x ∈ G ↔ rawP iv s F pr h m c x ∧ pr x = pr t) ∧ pickP po (G.take 100001) t)
theorem has_val {P : PlT} {r : Rl} {s : Int} {F : Int → Bool} {pr : Int → Int} {h m c : List Int} (hP : PlanOK P r s F pr h m c) (t : Int) (ht : inT t) :
  member_Plan_Has.f P t = some (ind (belP r.2.1 r.2.2.2.1 r.2.2.2.2.2.1 r.2.2.2.2.2.2.2.2.2.2.2.2.2.2.1 s F pr h m c t), ()) := by
 have hno : ∀ b, b = ind (belP r.2.1 r.2.2.2.1 r.2.2.2.2.2.1 r.2.2.2.2.2.2.2.2.2.2.2.2.2.2.1 s F pr h m c t) → (some (b, ()) : Option (Bool × Unit)) = some (ind (belP r.2.1 r.2.2.2.1 r.2.2.2.2.2.1 r.2.2.2.2.2.2.2.2.2.2.2.2.2.2.1 s F pr h m c t), ()) := fun b e => by rw [e]
 rw [member_Plan_Has.f_eq, hP.es]
 by_cases c1 : t < s
 ·rw [dp c1, cond_true, member_Plan_Has.l1_eq, cond_true]
  exact hno _ (ind_f (fun q => by have := q.2.1; omega)).symm
 ·rw [dn c1, cond_false, member_Plan_Past.f_eq, hP.er]
  have hrest : (r.2.2.2.2.2.1 = true → t ≤ r.2.2.2.1) → ((member_Plan_Raw.f P t).bind fun t2 => member_Plan_Has.l1 t (!t2.1) P) = some (ind (belP r.2.1 r.2.2.2.1 r.2.2.2.2.2.1 r.2.2.2.2.2.2.2.2.2.2.2.2.2.2.1 s F pr h m c t), ()) := by
   intro hu
   rw [raw_val hP t ht, Option.bind_some, member_Plan_Has.l1_eq]
   by_cases c2 : rawP r.2.1 s F pr h m c t
   ·rw [ind_t c2, Bool.not_true, cond_false, hP.er]
    by_cases c3 : r.2.2.2.2.2.2.2.2.2.2.2.2.2.2.1 = []
    ·rw [dp (show (r.2.2.2.2.2.2.2.2.2.2.2.2.2.2.1.length : Int) = 0 by rw [c3]; rfl), cond_true]
     exact hno _ (ind_t ⟨c2, by omega, hu, .inl c3⟩).symm
    ·have := ne_len.1 c3
     obtain ⟨G, G1, G2, G3⟩ := set_val hP t ht
     have hS := G3 100000 (by omega)
     have hS : member_Plan_Set.f P t 100000 = some (G.take 100001, ()) := hS
     have hlen : (G.take 100001).length ≤ 1000000 := by rw [List.length_take]; omega
     rw [dn (show ¬ (r.2.2.2.2.2.2.2.2.2.2.2.2.2.2.1.length : Int) = 0 by omega), cond_false, hS]
     simp only [Option.bind_some]
     rw [picked_val hP t _ (rise_take G1 _) hlen]
     refine hno _ ?_
     by_cases c4 : pickP r.2.2.2.2.2.2.2.2.2.2.2.2.2.2.1 (G.take 100001) t
     ·rw [ind_t c4, ind_t ⟨c2, by omega, hu, .inr ⟨G, G1, G2, c4⟩⟩]
     ·rw [ind_f c4, ind_f]
      rintro ⟨_, _, _, q | ⟨G', g1, g2, g3⟩⟩
      ·exact c3 q
      ·have e : G' = G := rise_ext g1 G1 fun x => by rw [g2, G2]
       rw [e] at g3
       exact c4 g3
   ·rw [ind_f c2, Bool.not_false, cond_true]
    exact hno _ (ind_f (fun q => c2 q.1)).symm
  cases hen : r.2.2.2.2.2.1 with
  | false =>
   rw [hen] at hrest
   rw [cond_false]
   exact hrest (fun q => by cases q)
  | true =>
   rw [hen] at hrest hno
   rw [cond_true, Option.bind_some]
   by_cases c2 : t > r.2.2.2.1
   ·rw [dp c2, cond_true, member_Plan_Has.l1_eq, cond_true]
    exact hno _ (ind_f (fun q => by have := q.2.2.1 rfl; omega)).symm
   ·rw [dn c2, cond_false]
    exact hrest (fun _ => by omega)
theorem may2 (t : Int) : stamp_May.f t = some (decide (inT t), ()) := (may_mo t).1
section
variable {P : PlT} {r : Rl} {s : Int} {F : Int → Bool} {pr : Int → Int} {h m c : List Int} (hP : PlanOK P r s F pr h m c) (hMk : member_Make.f r s = some (P, true, ()))
include hP hMk
theorem pHas (t : Int) : member_Has.f r s t = some (ind (belP r.2.1 r.2.2.2.1 r.2.2.2.2.2.1 r.2.2.2.2.2.2.2.2.2.2.2.2.2.2.1 s F pr h m c t), ()) := by
 rw [member_Has.f_eq, hMk, may2]
 by_cases c : inT t
 ·simp (disch := omega) only [ss, cond_true, cond_false, Option.bind_some, dp c, has_val hP t c]
 ·rw [dn c, ind_f (fun q => c q.1.1)]
  rfl
end
section
variable {r : Rl} {s : Int} {P : PlT} (hMk : member_Make.f r s = some (P, false, ()))
include hMk
end
section
variable {f iv ct un wkst : Int} {en : Bool} {mo we yd md : List Int} {dy : List Dy} {ho mi se po : List Int} {P : PlT} {s : Int} {F : Int → Bool} {pr : Int → Int} {h m c : List Int} (hP : PlanOK P (f, iv, ct, un, wkst, en, mo, we, yd, md, dy, ho, mi, se, po, ()) s F pr h m c) (hMk : member_Make.f (f, iv, ct, un, wkst, en, mo, we, yd, md, dy, ho, mi, se, po, ()) s = some (P, true, ()))
include hP hMk
end
end Go.GV.YtdnpbkbklnkjoaaGreatDoor
namespace Go.GV.YtdnpbkbklnkjoaaGreatDoor
open Go.Proofs
section
variable (W : Int → Prop)
noncomputable def memL (a b : Int) : List Int := ((List.range (b - a).toNat).map (fun (j : Nat) => a + (j : Int))).filter fun x => ind (W x)
theorem mem_memL {a b x : Int} : x ∈ memL W a b ↔ W x ∧ a ≤ x ∧ x < b := by
 unfold memL
 rw [List.mem_filter, List.mem_map, ind_iff]
 constructor
 ·rintro ⟨⟨j, hj, e⟩, h⟩
  have := List.mem_range.1 hj
  exact ⟨h, by omega, by omega⟩
 ·rintro ⟨h, h1, h2⟩
  exact ⟨⟨(x - a).toNat, List.mem_range.2 (by omega), by omega⟩, h⟩
theorem rise_memL (a b : Int) : Rise (memL W a b) := by
 unfold memL
 refine List.Pairwise.sublist List.filter_sublist ?_
 rw [List.pairwise_map]
 exact List.Pairwise.imp (fun {i j} h => by omega) List.pairwise_lt_range
theorem memL_eq {L : List Int} {a b : Int} (hr : Rise L) (h : ∀ x, x ∈ L ↔ W x ∧ a ≤ x ∧ x < b) : L = memL W a b :=
 rise_ext hr (rise_memL W a b) fun x => by rw [h, mem_memL]
theorem memL_split {a b c : Int} (h1 : a ≤ b) (h2 : b ≤ c) : memL W a b ++ memL W b c = memL W a c := by
 refine memL_eq W (rise_app.2 ⟨rise_memL W a b, rise_memL W b c, fun x hx y hy => ?_⟩) fun x => ?_
 ·have := (mem_memL W).1 hx
  have := (mem_memL W).1 hy
  omega
 ·rw [List.mem_append, mem_memL, mem_memL]
  constructor
  ·rintro (⟨q, _, _⟩ | ⟨q, _, _⟩) <;> exact ⟨q, by omega, by omega⟩
  ·rintro ⟨q, _, _⟩
   by_cases c1 : x < b
   ·exact .inl ⟨q, by omega, c1⟩
   ·exact .inr ⟨q, by omega, by omega⟩
theorem memL_none {a b : Int} (h : ∀ x, a ≤ x → x < b → ¬ W x) : memL W a b = [] :=
 (memL_eq W rise_nil fun x => ⟨fun q => absurd q (by simp), fun q => absurd q.1 (h x q.2.1 q.2.2)⟩).symm
theorem memL_nil {a b : Int} (h : b ≤ a) : memL W a b = [] := memL_none W fun x h1 h2 => by omega
end
section
variable (W : Int → Prop) (fr en : Int)
noncomputable def memC (a b : Int) : List Int := memL W (if fr ≤ a then a else fr) (if b ≤ en then b else en)
theorem mem_memC {a b x : Int} : x ∈ memC W fr en a b ↔ W x ∧ (a ≤ x ∧ x < b) ∧ fr ≤ x ∧ x < en := by
 unfold memC
 rw [mem_memL]
 by_cases c1 : fr ≤ a
 ·rw [if_pos c1]
  by_cases c2 : b ≤ en
  ·rw [if_pos c2]
   exact ⟨fun h => ⟨h.1, ⟨by omega, by omega⟩, by omega, by omega⟩, fun h => ⟨h.1, by omega, by omega⟩⟩
  ·rw [if_neg c2]
   exact ⟨fun h => ⟨h.1, ⟨by omega, by omega⟩, by omega, by omega⟩, fun h => ⟨h.1, by omega, by omega⟩⟩
 ·rw [if_neg c1]
  by_cases c2 : b ≤ en
  ·rw [if_pos c2]
   exact ⟨fun h => ⟨h.1, ⟨by omega, by omega⟩, by omega, by omega⟩, fun h => ⟨h.1, by omega, by omega⟩⟩
  ·rw [if_neg c2]
   exact ⟨fun h => ⟨h.1, ⟨by omega, by omega⟩, by omega, by omega⟩, fun h => ⟨h.1, by omega, by omega⟩⟩
theorem rise_memC (a b : Int) : Rise (memC W fr en a b) := rise_memL W _ _
theorem memC_eq {L : List Int} {a b : Int} (hr : Rise L) (h : ∀ x, x ∈ L ↔ W x ∧ (a ≤ x ∧ x < b) ∧ fr ≤ x ∧ x < en) : L = memC W fr en a b :=
 rise_ext hr (rise_memC W fr en a b) fun x => by rw [h, mem_memC]
theorem memC_split {a b c : Int} (h1 : a ≤ b) (h2 : b ≤ c) : memC W fr en a b ++ memC W fr en b c = memC W fr en a c := by
 refine memC_eq W fr en (rise_app.2 ⟨rise_memC W fr en a b, rise_memC W fr en b c, fun x hx y hy => ?_⟩) fun x => ?_
 ·have := (mem_memC W fr en).1 hx
  have := (mem_memC W fr en).1 hy
  omega
 ·rw [List.mem_append, mem_memC, mem_memC]
  constructor
  ·rintro (⟨q, q1, q2⟩ | ⟨q, q1, q2⟩) <;> exact ⟨q, ⟨by omega, by omega⟩, q2⟩
  ·rintro ⟨q, q1, q2⟩
   by_cases c1 : x < b
   ·exact .inl ⟨q, ⟨by omega, c1⟩, q2⟩
   ·exact .inr ⟨q, ⟨by omega, by omega⟩, q2⟩
def inW (x : Int) : Bool := decide (fr ≤ x) && decide (x < en)
theorem memC_of {L : List Int} {a b : Int} (hr : Rise L) (h : ∀ x, x ∈ L ↔ W x ∧ a ≤ x ∧ x < b) : L.filter (inW fr en) = memC W fr en a b := by
 refine memC_eq W fr en (List.Pairwise.sublist List.filter_sublist hr) fun x => ?_
 unfold inW
 rw [List.mem_filter, h, Bool.and_eq_true, decide_eq_true_eq, decide_eq_true_eq]
 exact ⟨fun q => ⟨q.1.1, q.1.2, q.2⟩, fun q => ⟨⟨q.1, q.2.1⟩, q.2.2⟩⟩
theorem memC_ext {W' : Int → Prop} {a b a' b' : Int} (h : ∀ x, fr ≤ x → x < en → (W x ∧ a ≤ x ∧ x < b ↔ W' x ∧ a' ≤ x ∧ x < b')) : memC W fr en a b = memC W' fr en a' b' := by
 refine memC_eq W' fr en (rise_memC W fr en a b) fun x => ?_
 rw [mem_memC]
 constructor
 ·rintro ⟨q, q1, q2⟩
  have := (h x q2.1 q2.2).1 ⟨q, q1⟩
  exact ⟨this.1, this.2, q2⟩
 ·rintro ⟨q, q1, q2⟩
  have := (h x q2.1 q2.2).2 ⟨q, q1⟩
  exact ⟨this.1, this.2, q2⟩
theorem memC_none {a b : Int} (h : ∀ x, fr ≤ x → x < en → a ≤ x → x < b → ¬ W x) : memC W fr en a b = [] :=
 (memC_eq W fr en rise_nil fun x => ⟨fun q => absurd q (by simp), fun q => absurd q.1 (h x q.2.2.1 q.2.2.2 q.2.1.1 q.2.1.2)⟩).symm
theorem memC_full : memC W fr en fr en = memL W fr en := by
 unfold memC
 rw [if_pos (Int.le_refl _), if_pos (Int.le_refl _)]
theorem memC_head {a : Int} {l : List Int} {lo hi a1 a2 : Int} (q : Int → Int) (hr : Rise (a :: l)) (hq : ∀ x y, x ≤ y → q x ≤ q y) (ha : ∀ x, W x → (lo ≤ x ∧ x < hi ∧ q x = a ↔ a1 ≤ x ∧ x < a2)) :
  memC W fr en a1 a2 ++ memC (fun x => W x ∧ q x ∈ l) fr en lo hi = memC (fun x => W x ∧ q x ∈ a :: l) fr en lo hi := by
 have hr := rise_cons.1 hr
 refine memC_eq _ fr en (rise_app.2 ⟨rise_memC W fr en _ _, rise_memC _ fr en _ _, fun x hx y hy => ?_⟩) fun x => ?_
 ·have h1 := (mem_memC W fr en).1 hx
  have h2 := (mem_memC _ fr en).1 hy
  have h3 := (ha x h1.1).2 h1.2.1
  have h4 := hr.1 _ h2.1.2
  refine Classical.byContradiction fun c => ?_
  have := hq y x (by omega)
  omega
 ·rw [List.mem_append, mem_memC, mem_memC, List.mem_cons]
  constructor
  ·rintro (⟨h, h1, h2⟩ | ⟨⟨h, h0⟩, h1, h2⟩)
   ·have := (ha x h).2 h1
    exact ⟨⟨h, .inl this.2.2⟩, ⟨this.1, this.2.1⟩, h2⟩
   ·exact ⟨⟨h, .inr h0⟩, h1, h2⟩
  ·rintro ⟨⟨h, h0⟩, h1, h2⟩
   rcases h0 with h0 | h0
   ·exact .inl ⟨h, (ha x h).1 ⟨h1.1, h1.2, h0⟩, h2⟩
   ·exact .inr ⟨⟨h, h0⟩, h1, h2⟩
end
noncomputable def pickL (po l : List Int) : List Int := if po = [] then l else l.filter fun x => ind (pickP po l x)
def picP (iv : Int) (po : List Int) (s : Int) (F : Int → Bool) (pr : Int → Int) (h m c : List Int) (t : Int) : Prop :=
 rawP iv s F pr h m c t ∧ (po = [] ∨ ∃ G : List Int, Rise G ∧ (∀ x, x ∈ G ↔ rawP iv s F pr h m c x ∧ pr x = pr t) ∧ pickP po (G.take 100001) t)
theorem bel_pic {iv un : Int} {en : Bool} {po : List Int} {s : Int} {F : Int → Bool} {pr : Int → Int} {h m c : List Int} {t : Int} : belP iv un en po s F pr h m c t ↔ picP iv po s F pr h m c t ∧ s ≤ t ∧ (en = true → t ≤ un) :=
 ⟨fun ⟨a, b, c, d⟩ => ⟨⟨a, d⟩, b, c⟩, fun ⟨⟨a, d⟩, b, c⟩ => ⟨a, b, c, d⟩⟩
theorem rise_pickL {po l : List Int} (h : Rise l) : Rise (pickL po l) := by
 unfold pickL
 split
 ·exact h
 ·exact List.Pairwise.sublist List.filter_sublist h
theorem mem_pickL {iv : Int} {po : List Int} {s : Int} {F : Int → Bool} {pr : Int → Int} {h m c : List Int} {a b : Int} {G : List Int} (hG : Rise G) (hm : ∀ x, x ∈ G ↔ rawP iv s F pr h m c x ∧ a ≤ x ∧ x < b)
  (hp : ∀ x y, inT x → inT y → a ≤ x → x < b → (pr y = pr x ↔ a ≤ y ∧ y < b)) (hlen : po = [] → G.length ≤ 100001) (x : Int) : x ∈ pickL po (G.take 100001) ↔ picP iv po s F pr h m c x ∧ a ≤ x ∧ x < b := by
 have hsame : ∀ x, inT x → a ≤ x → x < b → ∀ y, y ∈ G ↔ rawP iv s F pr h m c y ∧ pr y = pr x := fun x hx h1 h2 y => by
  rw [hm]
  constructor
  ·rintro ⟨q, q1⟩
   exact ⟨q, (hp x y hx q.1 h1 h2).2 q1⟩
  ·rintro ⟨q, q1⟩
   exact ⟨q, (hp x y hx q.1 h1 h2).1 q1⟩
 unfold pickL picP
 by_cases cp : po = []
 ·rw [if_pos cp, List.take_of_length_le (hlen cp), hm]
  exact ⟨fun q => ⟨⟨q.1, .inl cp⟩, q.2⟩, fun q => ⟨q.1.1, q.2⟩⟩
 ·rw [if_neg cp, List.mem_filter, ind_iff]
  constructor
  ·rintro ⟨q, q1⟩
   have q2 := (hm x).1 (List.mem_of_mem_take q)
   exact ⟨⟨q2.1, .inr ⟨G, hG, hsame x q2.1.1 q2.2.1 q2.2.2, q1⟩⟩, q2.2⟩
  ·rintro ⟨⟨q, q1⟩, q2⟩
   rcases q1 with q1 | ⟨G', g1, g2, g3⟩
   ·exact absurd q1 cp
   ·have e : G' = G := rise_ext g1 hG fun y => by rw [g2, hsame x q.1 q2.1 q2.2]
    subst e
    refine ⟨?_, g3⟩
    obtain ⟨_, i, i1, i2, _⟩ := g3
    rw [← i2]
    exact get_mem i1
theorem pick_l1 {P : PlT} {L : List Int} (p : Int → Bool) (hl : L.length ≤ 1000000) (hp : ∀ x, member_Plan_picked.f P x L = some (p x, ())) : ∀ (n i : Nat), L.length - i = n → i ≤ L.length → ∀ acc : List Int, acc.length ≤ i →
  member_Plan_Pick.l1 L L (L.length : Int) i P acc = some (acc ++ (L.drop i).filter p, ()) := by
 have hlim : limit = 17179869184 := rfl
 intro n
 induction n with
 | zero =>
  intro i hn hi acc ha
  have e : i = L.length := by omega
  subst e
  rw [member_Plan_Pick.l1_eq]
  simp (disch := omega) only [ss, cond_true, cond_false, Option.bind_some]
  rw [List.drop_length, List.filter_nil, List.append_nil]
 | succ n ih =>
  intro i hn hi acc ha
  have hlt : i < L.length := by omega
  rw [member_Plan_Pick.l1_eq, Int.toNat_natCast, drop_getD' 0 hlt, hp]
  generalize L.getD i 0 = x
  cases hx : p x with
  | true =>
   have ih' := ih (i + 1) (by omega) (by omega) (acc ++ [x]) (by rw [len_snoc]; omega)
   rw [Int.natCast_add, Int.natCast_one] at ih'
   rw [List.filter_cons_of_pos hx]
   simp (disch := omega) only [ss, cond_true, cond_false, Option.bind_some, List.length_singleton, hlim]
   rw [ih', List.append_assoc]
   rfl
  | false =>
   have ih' := ih (i + 1) (by omega) (by omega) acc (by omega)
   rw [Int.natCast_add, Int.natCast_one] at ih'
   rw [List.filter_cons_of_neg (by rw [hx]; simp)]
   simp (disch := omega) only [ss, cond_true, cond_false, Option.bind_some]
   exact ih'
theorem pick_val {P : PlT} {r : Rl} {s : Int} {F : Int → Bool} {pr : Int → Int} {h m c : List Int} (hP : PlanOK P r s F pr h m c) {L : List Int} (hr : Rise L) (hl : L.length ≤ 1000000) :
  member_Plan_Pick.f P L = some (pickL r.2.2.2.2.2.2.2.2.2.2.2.2.2.2.1 L, ()) := by
 have lp := hP.lp
 have hpk := fun x => picked_val hP x L hr hl
 rw [member_Plan_Pick.f_eq, hP.er]
 generalize r.2.2.2.2.2.2.2.2.2.2.2.2.2.2.1 = po at lp hpk ⊢
 unfold pickL
 by_cases cp : po = []
 ·rw [if_pos cp, dp (show (po.length : Int) = 0 by rw [cp]; rfl), cond_true]
 ·have := ne_len.1 cp
  have hl1 := pick_l1 _ hl hpk L.length 0 (by omega) (Nat.zero_le _) [] (Nat.zero_le _)
  rw [Int.natCast_zero, List.drop_zero, List.nil_append] at hl1
  rw [if_neg cp, dn (show ¬ (po.length : Int) = 0 by omega), cond_false, hl1]
section
variable {σ : Type} (yes : σ → Int → σ × Bool)
def run : σ → List Int → σ × Bool
 | s, [] => (s, true)
 | s, x :: l => if (yes s x).2 = true then run (yes s x).1 l else ((yes s x).1, false)
theorem run_cons (s : σ) (x : Int) (l : List Int) : run yes s (x :: l) = if (yes s x).2 = true then run yes (yes s x).1 l else ((yes s x).1, false) := rfl
theorem run_app : ∀ (s : σ) (a b : List Int), run yes s (a ++ b) = if (run yes s a).2 = true then run yes (run yes s a).1 b else ((run yes s a).1, false)
 | s, [], b => rfl
 | s, x :: a, b => by
  rw [List.cons_append, run_cons, run_cons]
  by_cases c : (yes s x).2 = true
  ·rw [if_pos c, if_pos c, run_app (yes s x).1 a b]
  ·rw [if_neg c, if_neg c, if_neg (by simp)]
theorem run_nil (s : σ) : run yes s [] = (s, true) := rfl
end
def yesF (M : Int) (l : List Int) (t : Int) : List Int × Bool := (l ++ [t], decide (((l ++ [t]).length : Int) < M))
theorem run_F (M : Nat) : ∀ (X l : List Int), l.length < M → run (yesF M) l X = ((l ++ X).take M, decide ((l ++ X).length < M))
 | [], l, h => by
  rw [run_nil, List.append_nil, List.take_of_length_le (by omega), dp h]
 | x :: X, l, h => by
  rw [run_cons]
  have e : l ++ x :: X = (l ++ [x]) ++ X := by simp
  have hl : (l ++ [x]).length = l.length + 1 := len_snoc l x
  show (if decide (((l ++ [x]).length : Int) < M) = true then run (yesF M) (l ++ [x]) X else (l ++ [x], false)) = _
  rw [hl]
  by_cases c : l.length + 1 < M
  ·rw [dp (show ((l.length + 1 : Nat) : Int) < M by omega), if_pos rfl, run_F M X (l ++ [x]) (by omega), e]
  ·rw [dn (show ¬ ((l.length + 1 : Nat) : Int) < M by omega), if_neg (by simp), e, List.take_append_of_le_length (by omega), List.take_of_length_le (by omega), dn]
   rw [List.length_append]
   omega
def yesN (after : Int) (s : Int × Bool) (t : Int) : (Int × Bool) × Bool := if t > after then ((t, true), false) else (s, !s.2)
theorem run_N (after : Int) : ∀ (X : List Int), run (yesN after) (0, false) X = match X.find? (fun x => decide (x > after)) with | some t => ((t, true), false) | none => ((0, false), true)
 | [] => rfl
 | x :: X => by
  rw [run_cons, List.find?_cons]
  unfold yesN
  by_cases c : x > after
  ·rw [if_pos c, dp c]
   rfl
  ·rw [if_neg c, dn c]
   exact run_N after X
end Go.GV.YtdnpbkbklnkjoaaGreatDoor
