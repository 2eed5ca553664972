/-
Part of the words that the laws of this seat are proved with: no statement of its own, no conditions.
-/
import Derived.Test.YtdnpbkbklnkjoaaGreatDoorZ19
set_option linter.unusedVariables false
set_option linter.unusedSimpArgs false
namespace Go.GV.YtdnpbkbklnkjoaaGreatDoor
open Go.Proofs
theorem rise_len : ∀ {l : List Int}, Rise l → ∀ {a b : Int}, (∀ x, x ∈ l → a ≤ x ∧ x ≤ b) → l.length ≤ (b + 1 - a).toNat
 | [], _, _, _, _ => Nat.zero_le _
 | x :: l, hr, a, b, h => by
  have h0 := h x (List.mem_cons_self ..)
  have := rise_len (rise_cons.1 hr).2 (a := x + 1) (b := b) fun y hy => by
   have := h y (List.mem_cons_of_mem _ hy)
   have := (rise_cons.1 hr).1 y hy
   omega
  rw [List.length_cons]
  omega
theorem dayL_len {h m c : List Int} (oh : okT h 23) (om : okT m 59) (oc : okT c 59) (lo hi d : Int) : (dayL h m c lo hi d).length ≤ 86400 := by
 have := rise_len (rise_dayL oh.1 om.1 oc.1 om.2.1 oc.2.1 lo hi d) (a := d * 86400) (b := d * 86400 + 86399) fun x hx => by
  have := (mem_dayL oh.2.1 om.2.1 oc.2.1 lo hi d x).1 hx
  omega
 omega
theorem pickL_len (po l : List Int) : (pickL po l).length ≤ l.length := by
 unfold pickL
 split
 ·exact Nat.le_refl _
 ·exact List.length_filter_le _ _
def minL (t : Int) (c : List Int) : List Int := c.map fun s => t + s
def hourL (t : Int) (m c : List Int) : List Int := m.flatMap fun b => minL (t + 60 * b) c
theorem mem_minL {t x : Int} {c : List Int} : x ∈ minL t c ↔ x - t ∈ c := by
 unfold minL
 rw [List.mem_map]
 constructor
 ·rintro ⟨s, hs, e⟩
  rw [show x - t = s by omega]
  exact hs
 ·intro h
  exact ⟨_, h, by omega⟩
theorem rise_minL' {c : List Int} (rc : Rise c) (t : Int) : Rise (minL t c) := rise_map rc _ fun x y h => by omega
theorem mem_hourL {t x : Int} {m c : List Int} (hc : inR c 59) : x ∈ hourL t m c ↔ (x - t) / 60 ∈ m ∧ (x - t) % 60 ∈ c := by
 unfold hourL
 rw [List.mem_flatMap]
 constructor
 ·rintro ⟨b, hb, hx⟩
  have hs := mem_minL.1 hx
  have := hc _ hs
  have e1 : (x - t) / 60 = b := by omega
  have e2 : (x - t) % 60 = x - (t + 60 * b) := by omega
  rw [e1, e2]
  exact ⟨hb, hs⟩
 ·rintro ⟨h1, h2⟩
  refine ⟨_, h1, mem_minL.2 ?_⟩
  rw [show x - (t + 60 * ((x - t) / 60)) = (x - t) % 60 by omega]
  exact h2
theorem rise_hourL {m c : List Int} (rm : Rise m) (rc : Rise c) (hc : inR c 59) (t : Int) : Rise (hourL t m c) := by
 refine rise_flat rm (fun b hb => rise_minL' rc _) ?_
 intro b b' hb hb' hlt x hx y hy
 have := hc _ (mem_minL.1 hx)
 have := hc _ (mem_minL.1 hy)
 omega
section
variable {P : PlT} {r : Rl} {s0 : Int} {F : Int → Bool} {pr : Int → Int} {h m c : List Int} (hP : PlanOK P r s0 F pr h m c)
include hP
theorem rise_minL (t : Int) : Rise (minL t c) := rise_minL' hP.oc.1 t
theorem minL_len (t : Int) : (minL t c).length ≤ 1000000 := by
 have := hP.oc.2.2
 unfold minL
 rw [List.length_map]
 omega
theorem hourL_len (t : Int) : (hourL t m c).length ≤ 3600 := by
 have := rise_len (rise_hourL hP.om.1 hP.oc.1 hP.oc.2.1 t) (a := t) (b := t + 3599) fun x hx => by
  have ⟨h1, h2⟩ := (mem_hourL hP.oc.2.1).1 hx
  have := hP.om.2.1 _ h1
  omega
 omega
theorem raw_hour (d a x : Int) (hd : -719162 ≤ d ∧ d ≤ 2932896) (ha : a ∈ h) (hF : F d = true) (h1 : d * 86400 + 3600 * a ≤ x) (h2 : x < d * 86400 + 3600 * a + 3600) :
  rawP r.2.1 s0 F pr h m c x ↔ (x - (d * 86400 + 3600 * a)) / 60 ∈ m ∧ (x - (d * 86400 + 3600 * a)) % 60 ∈ c ∧ inP r.2.1 s0 pr x := by
 have ha0 := hP.oh.2.1 a ha
 unfold rawP
 rw [mem_tod hP.om.2.1 hP.oc.2.1, show x % 86400 / 3600 = a by omega, show x % 86400 / 60 % 60 = (x - (d * 86400 + 3600 * a)) / 60 by omega, show x % 86400 % 60 = (x - (d * 86400 + 3600 * a)) % 60 by omega, show x / 86400 = d by omega]
 constructor
 ·rintro ⟨_, ⟨_, q1, q2⟩, q3, _⟩
  exact ⟨q1, q2, q3⟩
 ·rintro ⟨q1, q2, q3⟩
  exact ⟨by unfold inT; omega, ⟨ha, q1, q2⟩, q3, hF⟩
theorem hrs_val (d a : Int) (hd : -719162 ≤ d ∧ d ≤ 2932896) (ha : a ∈ h) (hF : F d = true) (c5 : r.1 = 5) : (pickL r.2.2.2.2.2.2.2.2.2.2.2.2.2.2.1 (hourL (d * 86400 + 3600 * a) m c)).length ≤ 1000000 ∧ Rise (pickL r.2.2.2.2.2.2.2.2.2.2.2.2.2.2.1 (hourL (d * 86400 + 3600 * a) m c)) ∧
  (inP r.2.1 s0 pr (d * 86400 + 3600 * a) → ∀ x, x ∈ pickL r.2.2.2.2.2.2.2.2.2.2.2.2.2.2.1 (hourL (d * 86400 + 3600 * a) m c) ↔ picP r.2.1 r.2.2.2.2.2.2.2.2.2.2.2.2.2.2.1 s0 F pr h m c x ∧ d * 86400 + 3600 * a ≤ x ∧ x < d * 86400 + 3600 * a + 3600) := by
 have ha0 := hP.oh.2.1 a ha
 have hlen := hourL_len hP (d * 86400 + 3600 * a)
 have htT : inT (d * 86400 + 3600 * a) := by unfold inT; omega
 have hper : ∀ x, inT x → d * 86400 + 3600 * a ≤ x → x < d * 86400 + 3600 * a + 3600 → pr x = pr (d * 86400 + 3600 * a) := fun x hx h1 h2 => by
  rw [hP.p5 c5 x hx, hP.p5 c5 _ htT]
  omega
 refine ⟨Nat.le_trans (pickL_len _ _) (by omega), rise_pickL (rise_hourL hP.om.1 hP.oc.1 hP.oc.2.1 _), fun hin x => ?_⟩
 have := mem_pickL (po := r.2.2.2.2.2.2.2.2.2.2.2.2.2.2.1) (iv := r.2.1) (s := s0) (F := F) (pr := pr) (h := h) (m := m) (c := c) (a := d * 86400 + 3600 * a) (b := d * 86400 + 3600 * a + 3600) (rise_hourL hP.om.1 hP.oc.1 hP.oc.2.1 (d * 86400 + 3600 * a)) (fun y => by
  rw [mem_hourL hP.oc.2.1]
  constructor
  ·rintro ⟨q1, q2⟩
   have := hP.om.2.1 _ q1
   have hy : d * 86400 + 3600 * a ≤ y ∧ y < d * 86400 + 3600 * a + 3600 := by omega
   refine ⟨(raw_hour hP d a y hd ha hF hy.1 hy.2).2 ⟨q1, q2, ?_⟩, hy⟩
   unfold inP at hin ⊢
   rw [hper y (by unfold inT; omega) hy.1 hy.2]
   exact hin
  ·rintro ⟨q, q1⟩
   have := (raw_hour hP d a y hd ha hF q1.1 q1.2).1 q
   exact ⟨this.1, this.2.1⟩) (fun x y hx hy h1 h2 => by
   rw [hP.p5 c5 x hx, hP.p5 c5 y hy]
   constructor <;> intro q <;> omega) (fun _ => by omega) x
 rw [List.take_of_length_le (by omega)] at this
 exact this
theorem mins_val (d a b : Int) (hd : -719162 ≤ d ∧ d ≤ 2932896) (ha : a ∈ h) (hb : b ∈ m) (hF : F d = true) (c6 : r.1 = 6) : (pickL r.2.2.2.2.2.2.2.2.2.2.2.2.2.2.1 (minL (d * 86400 + 3600 * a + 60 * b) c)).length ≤ 1000000 ∧ Rise (pickL r.2.2.2.2.2.2.2.2.2.2.2.2.2.2.1 (minL (d * 86400 + 3600 * a + 60 * b) c)) ∧
  (inP r.2.1 s0 pr (d * 86400 + 3600 * a + 60 * b) → ∀ x, x ∈ pickL r.2.2.2.2.2.2.2.2.2.2.2.2.2.2.1 (minL (d * 86400 + 3600 * a + 60 * b) c) ↔ picP r.2.1 r.2.2.2.2.2.2.2.2.2.2.2.2.2.2.1 s0 F pr h m c x ∧ d * 86400 + 3600 * a + 60 * b ≤ x ∧ x < d * 86400 + 3600 * a + 60 * b + 60) := by
 have ha0 := hP.oh.2.1 a ha
 have hb0 := hP.om.2.1 b hb
 have hc60 := hP.oc.2.2
 have hlen : (minL (d * 86400 + 3600 * a + 60 * b) c).length ≤ 60 := by unfold minL; rw [List.length_map]; exact hc60
 have htT : inT (d * 86400 + 3600 * a + 60 * b) := by unfold inT; omega
 refine ⟨Nat.le_trans (pickL_len _ _) (by omega), rise_pickL (rise_minL hP _), fun hin x => ?_⟩
 have := mem_pickL (po := r.2.2.2.2.2.2.2.2.2.2.2.2.2.2.1) (iv := r.2.1) (s := s0) (F := F) (pr := pr) (h := h) (m := m) (c := c) (a := d * 86400 + 3600 * a + 60 * b) (b := d * 86400 + 3600 * a + 60 * b + 60) (rise_minL hP (d * 86400 + 3600 * a + 60 * b)) (fun y => by
  rw [mem_minL]
  constructor
  ·intro q
   have := hP.oc.2.1 _ q
   have hy : d * 86400 + 3600 * a + 60 * b ≤ y ∧ y < d * 86400 + 3600 * a + 60 * b + 60 := by omega
   refine ⟨(raw_hour hP d a y hd ha hF (by omega) (by omega)).2 ⟨?_, ?_, ?_⟩, hy⟩
   ·rw [show (y - (d * 86400 + 3600 * a)) / 60 = b by omega]
    exact hb
   ·rw [show (y - (d * 86400 + 3600 * a)) % 60 = y - (d * 86400 + 3600 * a + 60 * b) by omega]
    exact q
   ·unfold inP at hin ⊢
    rw [hP.p6 c6 y (by unfold inT; omega), show y / 60 = (d * 86400 + 3600 * a + 60 * b) / 60 by omega, ← hP.p6 c6 _ htT]
    exact hin
  ·rintro ⟨q, q1⟩
   have := (raw_hour hP d a y hd ha hF (by omega) (by omega)).1 q
   rw [show y - (d * 86400 + 3600 * a + 60 * b) = (y - (d * 86400 + 3600 * a)) % 60 by omega]
   exact this.2.1) (fun x y hx hy h1 h2 => by
   rw [hP.p6 c6 x hx, hP.p6 c6 y hy]
   constructor <;> intro q <;> omega) (fun _ => by omega) x
 rw [List.take_of_length_le (by omega)] at this
 exact this
theorem secs_l1 (t : Int) (ht : inT t) (cb : Bool) (hcb : cb = true ↔ r.2.2.2.2.2.2.2.2.2.2.2.2.2.2.1 = [] ∨ (1 : Int) ∈ r.2.2.2.2.2.2.2.2.2.2.2.2.2.2.1 ∨ (-1 : Int) ∈ r.2.2.2.2.2.2.2.2.2.2.2.2.2.2.1) : ∀ (n : Nat) (x : Int), (60 - x).toNat ≤ n → 0 ≤ x → x ≤ 2000 → ∀ acc : List Int, acc.length + (60 - x).toNat ≤ 60 →
  ∃ L : List Int, member_Plan_secondsOf.l1 t r.2.1 x P acc = some (acc ++ L, ()) ∧ Rise L ∧ ∀ y, y ∈ L ↔ t + x ≤ y ∧ y < t + 60 ∧ r.2.1 ∣ y - t - x ∧ y - t ∈ c ∧ cb = true := by
 have hlim : limit = 17179869184 := rfl
 have hiv := hP.iv
 have lp := hP.lp
 have lc := hP.oc.2.2
 have he := hP.er
 have hec := hP.ec
 have stop : ∀ x : Int, ¬ x < 60 → ∀ acc : List Int, ∃ L : List Int, member_Plan_secondsOf.l1 t r.2.1 x P acc = some (acc ++ L, ()) ∧ Rise L ∧ ∀ y, y ∈ L ↔ t + x ≤ y ∧ y < t + 60 ∧ r.2.1 ∣ y - t - x ∧ y - t ∈ c ∧ cb = true := fun x hx acc => by
  refine ⟨[], ?_, rise_nil, fun y => ⟨fun q => absurd q (by simp), fun q => by omega⟩⟩
  rw [member_Plan_secondsOf.l1_eq, dn hx, cond_false, List.append_nil]
 have hcore : ∀ (x : Int) (acc : List Int), x < 60 → member_Plan_secondsOf.l1 t r.2.1 x P acc = member_Plan_secondsOf.l2 t r.2.1 x (decide (x ∈ c) && cb) P acc := fun x acc hx => by
  rw [member_Plan_secondsOf.l1_eq, dp hx, cond_true, hec, contains_int c x (by omega), he]
  simp only [Option.bind_some]
  generalize r.2.2.2.2.2.2.2.2.2.2.2.2.2.2.1 = po at hcb lp ⊢
  by_cases c1 : x ∈ c
  ·rw [dp c1, cond_true, Bool.true_and]
   by_cases c2 : po = []
   ·rw [dp (show (po.length : Int) = 0 by rw [c2]; rfl), cond_true, hcb.2 (.inl c2)]
   ·have := ne_len.1 c2
    rw [dn (show ¬ (po.length : Int) = 0 by omega), cond_false, contains_int po 1 (by omega), contains_int po (-1) (by omega)]
    simp only [Option.bind_some]
    by_cases c3 : (1 : Int) ∈ po
    ·rw [dp c3, cond_true, hcb.2 (.inr (.inl c3))]
    ·rw [dn c3, cond_false]
     by_cases c4 : (-1 : Int) ∈ po
     ·rw [dp c4, hcb.2 (.inr (.inr c4))]
     ·rw [dn c4, show cb = false by
       cases q : cb with
       | false => rfl
       | true =>
        rcases hcb.1 q with z | z | z
        ·exact absurd z c2
        ·exact absurd z c3
        ·exact absurd z c4]
  ·rw [dn c1, cond_false, Bool.false_and]
 unfold inT at ht
 intro n
 induction n with
 | zero => intro x hn h0 h1 acc ha; exact stop x (by omega) acc
 | succ n ih =>
  intro x hn h0 h1 acc ha
  by_cases hx : x < 60
  ·have w1 : IntKind.i64.wrap (x + r.2.1) = x + r.2.1 := wr (by omega) (by omega)
   have w2 : IntKind.i64.wrap (t + x) = t + x := wr (by omega) (by omega)
   have hstep : ∀ y : Int, t + x ≤ y → r.2.1 ∣ y - t - x → y = t + x ∨ (t + (x + r.2.1) ≤ y ∧ r.2.1 ∣ y - t - (x + r.2.1)) := fun y hy hd => by
    obtain ⟨k, hk⟩ := hd
    by_cases ck : k ≤ 0
    ·left
     have : r.2.1 * k ≤ 0 := Int.mul_nonpos_of_nonneg_of_nonpos (by omega) ck
     omega
    ·right
     have h3 : r.2.1 * 1 ≤ r.2.1 * k := Int.mul_le_mul_of_nonneg_left (by omega) (by omega)
     rw [Int.mul_one] at h3
     refine ⟨by omega, k - 1, ?_⟩
     rw [Int.mul_sub, Int.mul_one]
     omega
   have hback : ∀ y : Int, r.2.1 ∣ y - t - (x + r.2.1) → r.2.1 ∣ y - t - x := fun y ⟨k, hk⟩ => ⟨k + 1, by rw [Int.mul_add, Int.mul_one]; omega⟩
   rw [hcore x acc hx]
   cases hq : (decide (x ∈ c) && cb) with
   | true =>
    rw [Bool.and_eq_true, decide_eq_true_eq] at hq
    obtain ⟨L, g1, g2, g3⟩ := ih (x + r.2.1) (by omega) (by omega) (by omega) (acc ++ [t + x]) (by rw [len_snoc]; omega)
    refine ⟨(t + x) :: L, ?_, rise_cons.2 ⟨fun y hy => ?_, g2⟩, fun y => ?_⟩
    ·rw [member_Plan_secondsOf.l2_eq, cond_true, w1, w2]
     simp (disch := omega) only [ss, cond_true, cond_false, Option.bind_some, List.length_singleton, hlim]
     rw [g1, List.append_assoc]
     rfl
    ·have := (g3 y).1 hy
     omega
    ·rw [List.mem_cons, g3]
     constructor
     ·rintro (e | ⟨q1, q2, q3, q4⟩)
      ·subst e
       exact ⟨Int.le_refl _, by omega, ⟨0, by omega⟩, by rw [show t + x - t = x by omega]; exact hq.1, hq.2⟩
      ·exact ⟨by omega, q2, hback y q3, q4⟩
     ·rintro ⟨q1, q2, q3, q4⟩
      rcases hstep y q1 q3 with e | e
      ·exact .inl e
      ·exact .inr ⟨e.1, q2, e.2, q4⟩
   | false =>
    obtain ⟨L, g1, g2, g3⟩ := ih (x + r.2.1) (by omega) (by omega) (by omega) acc (by omega)
    refine ⟨L, ?_, g2, fun y => ?_⟩
    ·rw [member_Plan_secondsOf.l2_eq, cond_false, w1]
     exact g1
    ·rw [g3]
     constructor
     ·rintro ⟨q1, q2, q3, q4⟩
      exact ⟨by omega, q2, hback y q3, q4⟩
     ·rintro ⟨q1, q2, q3, q4, q5⟩
      rcases hstep y q1 q3 with e | e
      ·rw [e, show t + x - t = x by omega] at q4
       rw [dp q4, q5] at hq
       cases hq
      ·exact ⟨e.1, q2, e.2, q4, q5⟩
  ·exact stop x hx acc
theorem secs_val (d a b : Int) (hd : -719162 ≤ d ∧ d ≤ 2932896) (ha : a ∈ h) (hb : b ∈ m) (hF : F d = true) (c7 : r.1 = 7) :
  ∃ L : List Int, L.length ≤ 1000000 ∧ (Rise L ∧ ∀ x, x ∈ L ↔ picP r.2.1 r.2.2.2.2.2.2.2.2.2.2.2.2.2.2.1 s0 F pr h m c x ∧ d * 86400 + 3600 * a + 60 * b ≤ x ∧ x < d * 86400 + 3600 * a + 60 * b + 60) ∧ member_Plan_secondsOf.f P (d * 86400 + 3600 * a + 60 * b) = some (L, ()) := by
 have ha0 := hP.oh.2.1 a ha
 have hb0 := hP.om.2.1 b hb
 have hiv := hP.iv
 have hS := hP.inS
 have htT : inT (d * 86400 + 3600 * a + 60 * b) := by unfold inT; omega
 obtain ⟨t, ht⟩ : ∃ t, d * 86400 + 3600 * a + 60 * b = t := ⟨_, rfl⟩
 obtain ⟨cb, hcb⟩ : ∃ cb : Bool, cb = true ↔ r.2.2.2.2.2.2.2.2.2.2.2.2.2.2.1 = [] ∨ (1 : Int) ∈ r.2.2.2.2.2.2.2.2.2.2.2.2.2.2.1 ∨ (-1 : Int) ∈ r.2.2.2.2.2.2.2.2.2.2.2.2.2.2.1 := ⟨ind _, ind_iff⟩
 have hx0 : 0 ≤ (s0 - t) % r.2.1 := Int.emod_nonneg _ (by omega)
 have hx1 : (s0 - t) % r.2.1 < r.2.1 := Int.emod_lt_of_pos _ (by omega)
 have htm := Int.tmod_lt_of_pos (s0 - t) (show 0 < r.2.1 by omega)
 have htm2 := Int.lt_tmod_of_pos (s0 - t) (show 0 < r.2.1 by omega)
 unfold inT at htT hS
 have hstart : Int.tmod (IntKind.i64.wrap (Int.tmod (IntKind.i64.wrap (s0 - t)) r.2.1 + r.2.1)) r.2.1 = (s0 - t) % r.2.1 := by
  rw [wr (x := s0 - t) (by omega) (by omega), wr (by omega) (by omega), Int.tmod_eq_emod_of_nonneg (by omega)]
  have e := Int.mul_tdiv_add_tmod (s0 - t) r.2.1
  rw [show Int.tmod (s0 - t) r.2.1 + r.2.1 = (s0 - t) + r.2.1 * (1 - Int.tdiv (s0 - t) r.2.1) by rw [Int.mul_sub, Int.mul_one]; omega]
  exact Int.add_mul_emod_self_left _ _ _
 obtain ⟨L, g1, g2, g3⟩ := secs_l1 hP t (by unfold inT; omega) cb hcb 60 ((s0 - t) % r.2.1) (by omega) hx0 (by omega) [] (by simp; omega)
 have hlen := rise_len g2 (a := t) (b := t + 59) fun y hy => by
  have := (g3 y).1 hy
  omega
 rw [ht]
 refine ⟨L, by omega, ⟨g2, fun x => ?_⟩, ?_⟩
 ·rw [g3]
  have hdiv : r.2.1 ∣ s0 - t - (s0 - t) % r.2.1 := ⟨(s0 - t) / r.2.1, by have := Int.mul_ediv_add_emod (s0 - t) r.2.1; omega⟩
  have hkey : t ≤ x → x < t + 60 → (inP r.2.1 s0 pr x ↔ t + (s0 - t) % r.2.1 ≤ x ∧ r.2.1 ∣ x - t - (s0 - t) % r.2.1) := fun q1 q2 => by
   unfold inP
   rw [hP.p7 c7 x (by unfold inT; omega), hP.p7 c7 s0 hP.inS, ← Int.dvd_iff_tmod_eq_zero]
   constructor
   ·intro q
    have q' : r.2.1 ∣ x - t - (s0 - t) % r.2.1 := by
     have := Int.dvd_add q hdiv
     rw [show x - s0 + (s0 - t - (s0 - t) % r.2.1) = x - t - (s0 - t) % r.2.1 by omega] at this
     exact this
    refine ⟨?_, q'⟩
    obtain ⟨k, hk⟩ := q'
    by_cases ck : k < 0
    ·have h3 : r.2.1 * k ≤ r.2.1 * (-1) := Int.mul_le_mul_of_nonneg_left (by omega) (by omega)
     omega
    ·have : 0 ≤ r.2.1 * k := Int.mul_nonneg (by omega) (by omega)
     omega
   ·rintro ⟨_, q⟩
    have := Int.dvd_sub q hdiv
    rw [show x - t - (s0 - t) % r.2.1 - (s0 - t - (s0 - t) % r.2.1) = x - s0 by omega] at this
    exact this
  have hraw : t ≤ x → x < t + 60 → (rawP r.2.1 s0 F pr h m c x ↔ x - t ∈ c ∧ inP r.2.1 s0 pr x) := fun q1 q2 => by
   rw [raw_hour hP d a x hd ha hF (by omega) (by omega), show (x - (d * 86400 + 3600 * a)) / 60 = b by omega, show (x - (d * 86400 + 3600 * a)) % 60 = x - t by omega]
   exact ⟨fun q => q.2, fun q => ⟨hb, q⟩⟩
  have hpl : rawP r.2.1 s0 F pr h m c x → ((r.2.2.2.2.2.2.2.2.2.2.2.2.2.2.1 = [] ∨ ∃ G : List Int, Rise G ∧ (∀ y, y ∈ G ↔ rawP r.2.1 s0 F pr h m c y ∧ pr y = pr x) ∧ pickP r.2.2.2.2.2.2.2.2.2.2.2.2.2.2.1 (G.take 100001) x) ↔ cb = true) := fun q => by
   have hG : ∀ G : List Int, Rise G → (∀ y, y ∈ G ↔ rawP r.2.1 s0 F pr h m c y ∧ pr y = pr x) → G = [x] := fun G z1 z2 => by
    refine rise_ext z1 (rise_cons.2 ⟨fun y hy => absurd hy (by simp), rise_nil⟩) fun y => ?_
    rw [z2, List.mem_singleton]
    constructor
    ·rintro ⟨w, w1⟩
     rw [hP.p7 c7 y w.1, hP.p7 c7 x q.1] at w1
     exact w1
    ·intro w
     subst w
     exact ⟨q, rfl⟩
   rw [hcb]
   constructor
   ·rintro (z | ⟨G, z1, z2, z3⟩)
    ·exact .inl z
    ·rw [hG G z1 z2] at z3
     obtain ⟨_, i, i1, i2, i3⟩ := z3
     have : i = 0 := by simpa using i1
     subst this
     rcases i3 with i3 | i3
     ·exact .inr (.inl (by simpa using i3))
     ·exact .inr (.inr (by simpa using i3))
   ·rintro (z | z)
    ·exact .inl z
    ·refine .inr ⟨[x], rise_cons.2 ⟨fun y hy => absurd hy (by simp), rise_nil⟩, fun y => ?_, ?_⟩
     ·rw [List.mem_singleton]
      constructor
      ·intro w
       subst w
       exact ⟨q, rfl⟩
      ·rintro ⟨w, w1⟩
       rw [hP.p7 c7 y w.1, hP.p7 c7 x q.1] at w1
       exact w1
     ·refine ⟨by simp, 0, by simp, rfl, ?_⟩
      rcases z with z | z
      ·exact .inl (by simpa using z)
      ·exact .inr (by simpa using z)
  unfold picP
  constructor
  ·rintro ⟨q1, q2, q3, q4, q5⟩
   have hr := (hraw (by omega) q2).2 ⟨q4, (hkey (by omega) q2).2 ⟨q1, q3⟩⟩
   exact ⟨⟨hr, (hpl hr).2 q5⟩, by omega, q2⟩
  ·rintro ⟨⟨q, q1⟩, q2, q3⟩
   have h1 := (hraw q2 q3).1 q
   have h2 := (hkey q2 q3).1 h1.2
   exact ⟨h2.1, q3, h2.2, h1.1, (hpl q).1 q1⟩
 ·rw [member_Plan_secondsOf.f_eq, hP.er, hP.es, hstart, dn (show ¬ r.2.1 = 0 by omega), Bool.not_false, cond_true, cond_true]
  rw [List.nil_append] at g1
  exact g1
end
end Go.GV.YtdnpbkbklnkjoaaGreatDoor
namespace Go.GV.YtdnpbkbklnkjoaaGreatDoor
open Go.Proofs
abbrev clA (K : Int) (l : List Int) : (List Int × Unit) × (Int × Unit) × Unit := ((l, ()), (K, ()), ())
abbrev yA := yesF
def invA (K : Int) (l : List Int) : Prop := (l.length : Int) < K ∧ K ≤ 100000
theorem yesA {K : Int} {l : List Int} (hi : invA K l) (x : Int) : expand_first_1.f x (l, ()) (K, ()) = some ((yA K l x).2, ((yA K l x).1, ()), (K, ()), ()) ∧ ((yA K l x).2 = true → invA K (yA K l x).1) := by
 unfold invA at hi ⊢
 have hlim : limit = 17179869184 := rfl
 constructor
 ·rw [expand_first_1.f_eq]
  simp (disch := omega) only [ss, cond_true, cond_false, Option.bind_some, List.length_singleton, hlim]
  rfl
 ·intro h
  exact ⟨of_decide_eq_true h, hi.2⟩
section
variable {K fr en : Int}
theorem tellA_l1 {L : List Int} (hl : L.length ≤ 1000000) : ∀ (n i : Nat), L.length - i = n → i ≤ L.length → ∀ s : List Int, invA K s →
  ∃ s' b, run (yA K) s ((L.drop i).filter (inW fr en)) = (s', b) ∧ (b = true → invA K s') ∧ member_Plan_Walk_1.l1 L (L.length : Int) (i : Int) fr en K s = some (b, (fr, ()), (en, ()), (clA K s', ()), ()) := by
 intro n
 induction n with
 | zero =>
  intro i hn hi s hs
  have e : i = L.length := by omega
  subst e
  refine ⟨s, true, by rw [List.drop_length]; rfl, fun _ => hs, ?_⟩
  rw [member_Plan_Walk_1.l1_eq]
  simp (disch := omega) only [ss, cond_true, cond_false, Option.bind_some]
 | succ n ih =>
  intro i hn hi s hs
  have hlt : i < L.length := by omega
  have ih' := ih (i + 1) (by omega) (by omega)
  rw [Int.natCast_add, Int.natCast_one] at ih'
  rw [member_Plan_Walk_1.l1_eq, Int.toNat_natCast, drop_getD' 0 hlt]
  generalize L.getD i 0 = x
  by_cases c : fr ≤ x ∧ x < en
  ·have hin : inW fr en x = true := by
    unfold inW
    rw [dp c.1, dp c.2]
    rfl
   rw [List.filter_cons_of_pos hin, run_cons]
   obtain ⟨hy, hinv⟩ := yesA hs x
   cases hb : (yA K s x).2 with
   | true =>
    obtain ⟨s', b, h1, h2, h3⟩ := ih' _ (hinv hb)
    refine ⟨s', b, by rw [if_pos rfl]; exact h1, h2, ?_⟩
    simp (disch := omega) only [ss, cond_true, cond_false, Option.bind_some, hy, hb, member_Plan_Walk_1.l2_eq]
    exact h3
   | false =>
    refine ⟨_, false, by rw [if_neg (by simp)], (fun q => by cases q), ?_⟩
    simp (disch := omega) only [ss, cond_true, cond_false, Option.bind_some, hy, hb, member_Plan_Walk_1.l2_eq]
  ·have hin : inW fr en x = false := by
    cases q : inW fr en x with
    | false => rfl
    | true =>
     unfold inW at q
     rw [Bool.and_eq_true, decide_eq_true_eq, decide_eq_true_eq] at q
     exact absurd q c
   rw [List.filter_cons_of_neg (by rw [hin]; simp)]
   obtain ⟨s', b, h1, h2, h3⟩ := ih' s hs
   refine ⟨s', b, h1, h2, ?_⟩
   by_cases c1 : fr ≤ x
   ·simp (disch := omega) only [ss, cond_true, cond_false, Option.bind_some, member_Plan_Walk_1.l2_eq]
    exact h3
   ·simp (disch := omega) only [ss, cond_true, cond_false, Option.bind_some, member_Plan_Walk_1.l2_eq]
    exact h3
theorem tellA {L : List Int} (hl : L.length ≤ 1000000) (s : List Int) (hs : invA K s) :
  ∃ s' b, run (yA K) s (L.filter (inW fr en)) = (s', b) ∧ (b = true → invA K s') ∧ member_Plan_Walk_1.f L (fr, ()) (en, ()) (clA K s, ()) = some (b, (fr, ()), (en, ()), (clA K s', ()), ()) := by
 have h := tellA_l1 (fr := fr) (en := en) hl L.length 0 (by omega) (Nat.zero_le _) s hs
 rw [Int.natCast_zero, List.drop_zero] at h
 rw [member_Plan_Walk_1.f_eq]
 exact h
theorem runA_app {s s1 s2 : List Int} {a b c : List Int} {q : Bool} (e : a ++ b = c) (h1 : run (yA K) s a = (s1, true)) (h2 : run (yA K) s1 b = (s2, q)) : run (yA K) s c = (s2, q) := by
 rw [← e, run_app, h1, if_pos rfl, h2]
theorem runA_stop {s s1 : List Int} {a b c : List Int} (e : a ++ b = c) (h1 : run (yA K) s a = (s1, false)) : run (yA K) s c = (s1, false) := by
 rw [← e, run_app, h1, if_neg (by simp)]
end
section
variable {P : PlT} {r : Rl} {s0 : Int} {F : Int → Bool} {pr : Int → Int} {h m c : List Int} (hP : PlanOK P r s0 F pr h m c) {K fr en : Int} (hfr : -63000000000 ≤ fr ∧ fr ≤ 300000000000) (hen : -63000000000 ≤ en ∧ en ≤ 300000000000)
include hP
theorem perA_l1 (W : Int → Prop) (A B hi E : Int) (hE : mm false B hi = E) (hEB : E ≤ B) (hA : -719162 ≤ A) (hB : B ≤ 2932896)
  (hday : ∀ d, A ≤ d → d ≤ B → F d = true → (dayL h m c 0 86400 d).filter (inW fr en) = memC W fr en (d * 86400) ((d + 1) * 86400)) (hno : ∀ d, A ≤ d → d ≤ B → F d = false → memC W fr en (d * 86400) ((d + 1) * 86400) = []) :
  ∀ (n : Nat) (d : Int), (E + 1 - d).toNat = n → A ≤ d → ∀ s : List Int, invA K s →
  ∃ s' b, run (yA K) s (memC W fr en (d * 86400) ((E + 1) * 86400)) = (s', b) ∧ (b = true → invA K s') ∧ member_Plan_period.l1 B hi d fr en K s P = some (b, ((fr, ()), (en, ()), (clA K s', ()), ()), ()) := by
 intro n
 induction n with
 | zero =>
  intro d hn hd s hs
  refine ⟨s, true, by rw [memC_none W fr en (fun x _ _ h1 h2 => by omega)]; rfl, fun _ => hs, ?_⟩
  rw [member_Plan_period.l1_eq, hE, dn (show ¬ d ≤ E by omega), cond_false]
 | succ n ih =>
  intro d hn hd s hs
  have hdE : d ≤ E := by omega
  have hw : IntKind.i64.wrap (d + 1) = d + 1 := wr (by omega) (by omega)
  have hsp := memC_split W fr en (a := d * 86400) (b := (d + 1) * 86400) (c := (E + 1) * 86400) (by omega) (by omega)
  rw [member_Plan_period.l1_eq, hE, dp hdE, cond_true, member_Plan_Fits.f_eq, hP.fits d]
  simp only [Option.bind_some]
  cases hF : F d with
  | false =>
   rw [hno d hd (by omega) hF, List.nil_append] at hsp
   obtain ⟨s', b, h1, h2, h3⟩ := ih (d + 1) (by omega) (by omega) s hs
   refine ⟨s', b, by rw [← hsp]; exact h1, h2, ?_⟩
   rw [cond_false, member_Plan_period.l2_eq, cond_false, hw]
   exact h3
  | true =>
   have hdv := day_val 0 86400 d P 100000 (by omega) (by omega) (by omega) (by omega) (by rw [hP.eh]; exact hP.oh) (by rw [hP.em]; exact hP.om) (by rw [hP.ec]; exact hP.oc)
   rw [hP.eh, hP.em, hP.ec, show ((100000 : Nat) : Int) = 100000 from rfl, List.take_of_length_le (Nat.le_trans (dayL_len hP.oh hP.om hP.oc 0 86400 d) (by decide))] at hdv
   obtain ⟨s1, b1, g1, g2, g3⟩ := tellA (K := K) (fr := fr) (en := en) (L := dayL h m c 0 86400 d) (Nat.le_trans (dayL_len hP.oh hP.om hP.oc 0 86400 d) (by decide)) s hs
   rw [hday d hd (by omega) hF] at g1
   rw [cond_true, hdv]
   simp only [Option.bind_some]
   rw [g3]
   simp only [Option.bind_some]
   cases b1 with
   | false =>
    refine ⟨s1, false, runA_stop hsp g1, (fun q => by cases q), ?_⟩
    rw [member_Plan_period.l2_eq, Bool.not_false, cond_true]
   | true =>
    obtain ⟨s', b, h1, h2, h3⟩ := ih (d + 1) (by omega) (by omega) s1 (g2 rfl)
    refine ⟨s', b, runA_app hsp g1 h1, h2, ?_⟩
    rw [member_Plan_period.l2_eq, Bool.not_true, cond_false, hw]
    exact h3
include hfr hen
theorem perA (t A B : Int) (ht : inT t) (hA : -719162 ≤ A) (hB : B ≤ 2932896) (hAB : A ≤ t / 86400 ∧ t / 86400 ≤ B) (hp : ∀ x, inT x → (pr x = pr t ↔ A ≤ x / 86400 ∧ x / 86400 ≤ B)) (hin : inP r.2.1 s0 pr t) (s : List Int) (hs : invA K s) :
  ∃ s' b, run (yA K) s (memC (picP r.2.1 r.2.2.2.2.2.2.2.2.2.2.2.2.2.2.1 s0 F pr h m c) fr en (A * 86400) ((B + 1) * 86400)) = (s', b) ∧ (b = true → invA K s') ∧
   member_Plan_period.f P t A B fr en ((fr, ()), (en, ()), (clA K s, ()), ()) = some (b, ((fr, ()), (en, ()), (clA K s', ()), ()), ()) := by
 have hpp : ∀ x y, inT x → inT y → A * 86400 ≤ x → x < (B + 1) * 86400 → (pr y = pr x ↔ A * 86400 ≤ y ∧ y < (B + 1) * 86400) := fun x y hx hy h1 h2 => by
  rw [(hp x hx).2 (by omega), hp y hy]
  constructor <;> intro q <;> omega
 rw [member_Plan_period.f_eq, hP.er]
 have hpv := fun L hr hl => pick_val hP (L := L) hr hl
 have hpm := fun G (hG : Rise G) (hm : ∀ x, x ∈ G ↔ rawP r.2.1 s0 F pr h m c x ∧ A * 86400 ≤ x ∧ x < (B + 1) * 86400) hlen => mem_pickL (po := r.2.2.2.2.2.2.2.2.2.2.2.2.2.2.1) hG hm hpp hlen
 generalize r.2.2.2.2.2.2.2.2.2.2.2.2.2.2.1 = po at hpv hpm ⊢
 by_cases cp : po = []
 ·have hd1 := (mday_spec fr (by omega) (by omega)).1
  have hd2 := (mday_spec en (by omega) (by omega)).1
  obtain ⟨E, hE⟩ : ∃ E, mm false B (en / 86400) = E := ⟨_, rfl⟩
  obtain ⟨D, hD⟩ : ∃ D, mm true A (fr / 86400) = D := ⟨_, rfl⟩
  have hE' := hE
  have hD' := hD
  rw [mm_min] at hE'
  rw [mm_max] at hD'
  have hraw : ∀ x, picP r.2.1 po s0 F pr h m c x ↔ rawP r.2.1 s0 F pr h m c x := fun x => ⟨fun q => q.1, fun q => ⟨q, .inl cp⟩⟩
  have hl := perA_l1 hP (K := K) (picP r.2.1 po s0 F pr h m c) A B (en / 86400) E hE (by omega) hA hB
   (fun d h1 h2 hF => memC_of _ fr en (rise_dayL hP.oh.1 hP.om.1 hP.oc.1 hP.om.2.1 hP.oc.2.1 0 86400 d) fun x => by
    rw [mem_dayL hP.oh.2.1 hP.om.2.1 hP.oc.2.1, hraw]
    constructor
    ·rintro ⟨q1, q2, q3, q4⟩
     have hx : inT x := by unfold inT; omega
     refine ⟨⟨hx, q2, ?_, by rw [q1]; exact hF⟩, by omega, by omega⟩
     unfold inP at hin ⊢
     rw [(hp x hx).2 (by omega)]
     exact hin
    ·rintro ⟨q, q1, q2⟩
     exact ⟨by omega, q.2.1, by omega, by omega⟩)
   (fun d h1 h2 hF => memC_none _ fr en fun x _ _ q1 q2 q => by
    have q := ((hraw x).1 q).2.2.2
    rw [show x / 86400 = d by omega, hF] at q
    cases q) (E + 1 - D).toNat D rfl (by omega) s hs
  obtain ⟨s', b, h1, h2, h3⟩ := hl
  have e : memC (picP r.2.1 po s0 F pr h m c) fr en (A * 86400) ((B + 1) * 86400) = memC (picP r.2.1 po s0 F pr h m c) fr en (D * 86400) ((E + 1) * 86400) := memC_ext _ fr en fun x q1 q2 => by
   constructor
   ·rintro ⟨q, q3, q4⟩
    exact ⟨q, by omega, by omega⟩
   ·rintro ⟨q, q3, q4⟩
    exact ⟨q, by omega, by omega⟩
  refine ⟨s', b, by rw [e]; exact h1, h2, ?_⟩
  rw [dn (show ¬ (po.length : Int) > 0 by rw [cp]; simp), cond_false, hd1, hd2]
  simp only [Option.bind_some]
  rw [hD]
  exact h3
 ·have hpos := ne_len.1 cp
  obtain ⟨G, G1, G2, G3⟩ := set_val hP t ht
  have g := G3 100000 (by omega)
  rw [show ((100000 : Nat) : Int) = 100000 from rfl] at g
  have hlen : (G.take (100000 + 1)).length ≤ 1000000 := by rw [List.length_take]; omega
  have hm : ∀ x, x ∈ G ↔ rawP r.2.1 s0 F pr h m c x ∧ A * 86400 ≤ x ∧ x < (B + 1) * 86400 := fun x => by
   rw [G2]
   constructor
   ·rintro ⟨q, q1⟩
    have := (hp x q.1).1 q1
    exact ⟨q, by omega, by omega⟩
   ·rintro ⟨q, q1⟩
    exact ⟨q, (hp x q.1).2 (by omega)⟩
  have hpk := hpv _ (rise_take G1 (100000 + 1)) hlen
  have hlp : (pickL po (G.take (100000 + 1))).length ≤ 1000000 := Nat.le_trans (pickL_len po _) hlen
  obtain ⟨s', b, h1, h2, h3⟩ := tellA (K := K) (fr := fr) (en := en) hlp s hs
  rw [memC_of _ fr en (rise_pickL (rise_take G1 (100000 + 1))) (hpm G G1 hm (fun q => absurd q cp))] at h1
  refine ⟨s', b, h1, h2, ?_⟩
  rw [dp hpos, cond_true, g]
  simp only [Option.bind_some]
  rw [hpk]
  simp only [Option.bind_some]
  rw [h3]
  rfl
theorem daysA_l1 (hf : r.1 ≤ 4) (hs0 : s0 ≤ fr) (hen2 : en ≤ 253402300800) : ∀ (n : Nat) (t : Int), (en - t).toNat ≤ n → fr ≤ t → (t < en → ∀ x, inT x → fr ≤ x → x < t → pr x ≠ pr t) → ∀ s : List Int, invA K s →
  ∃ s' b, run (yA K) s (memC (picP r.2.1 r.2.2.2.2.2.2.2.2.2.2.2.2.2.2.1 s0 F pr h m c) fr en t en) = (s', b) ∧ member_Plan_walkDays.l1 fr en t fr en K s P = some (((fr, ()), (en, ()), (clA K s', ()), ()), ()) := by
 have hstop : ∀ t : Int, ¬ t < en → ∀ s : List Int, invA K s → ∃ s' b, run (yA K) s (memC (picP r.2.1 r.2.2.2.2.2.2.2.2.2.2.2.2.2.2.1 s0 F pr h m c) fr en t en) = (s', b) ∧ member_Plan_walkDays.l1 fr en t fr en K s P = some (((fr, ()), (en, ()), (clA K s', ()), ()), ()) := fun t c s hs => by
  refine ⟨s, true, by rw [memC_none _ fr en (fun x _ _ h1 h2 => by omega)]; rfl, ?_⟩
  rw [member_Plan_walkDays.l1_eq, dn c, cond_false]
 intro n
 induction n with
 | zero =>
  intro t hn ht hI s hs
  exact hstop t (by omega) s hs
 | succ n ih =>
  intro t hn ht hI s hs
  by_cases cT : t < en
  ·have hS := hP.inS
   have htT : inT t := by unfold inT at hS ⊢; omega
   obtain ⟨A, B, g1, g2, g3, _⟩ := hP.days t htT
   have hp := g3 hf
   have hw1 : IntKind.i64.wrap (B + 1) = B + 1 := wr (by omega) (by omega)
   have hw2 : IntKind.i64.wrap ((B + 1) * 86400) = (B + 1) * 86400 := wr (by omega) (by omega)
   have hI' : (B + 1) * 86400 < en → ∀ x, inT x → fr ≤ x → x < (B + 1) * 86400 → pr x ≠ pr ((B + 1) * 86400) := fun q x hx h1 h2 e => by
    have hT' : inT ((B + 1) * 86400) := by unfold inT at hS ⊢; omega
    have hy : inT (B * 86400) := by unfold inT; omega
    by_cases cx : x ≤ B * 86400
    ·have e1 := hP.mono x _ hx hy cx
     have e2 := hP.mono _ _ hy hT' (by omega)
     have e3 := (hp _ hy).2 ⟨by omega, by omega⟩
     have := (hp _ hT').1 (by omega)
     omega
    ·have e3 := (hp x hx).2 ⟨by omega, by omega⟩
     have := (hp _ hT').1 (by omega)
     omega
   have ih' := ih ((B + 1) * 86400) (by omega) (by omega) hI'
   have hsp := memC_split (picP r.2.1 r.2.2.2.2.2.2.2.2.2.2.2.2.2.2.1 s0 F pr h m c) fr en (a := t) (b := (B + 1) * 86400) (c := if (B + 1) * 86400 ≤ en then en else (B + 1) * 86400) (by omega) (by split <;> omega)
   have hlast : memC (picP r.2.1 r.2.2.2.2.2.2.2.2.2.2.2.2.2.2.1 s0 F pr h m c) fr en t (if (B + 1) * 86400 ≤ en then en else (B + 1) * 86400) = memC (picP r.2.1 r.2.2.2.2.2.2.2.2.2.2.2.2.2.2.1 s0 F pr h m c) fr en t en := memC_ext _ fr en fun x q1 q2 => by
    split
    ·exact Iff.rfl
    ·exact ⟨fun q => ⟨q.1, q.2.1, by omega⟩, fun q => ⟨q.1, q.2.1, by omega⟩⟩
   have hnext : memC (picP r.2.1 r.2.2.2.2.2.2.2.2.2.2.2.2.2.2.1 s0 F pr h m c) fr en ((B + 1) * 86400) (if (B + 1) * 86400 ≤ en then en else (B + 1) * 86400) = memC (picP r.2.1 r.2.2.2.2.2.2.2.2.2.2.2.2.2.2.1 s0 F pr h m c) fr en ((B + 1) * 86400) en := memC_ext _ fr en fun x q1 q2 => by
    split
    ·exact Iff.rfl
    ·exact ⟨fun q => ⟨q.1, q.2.1, by omega⟩, fun q => ⟨q.1, q.2.1, by omega⟩⟩
   rw [hlast, hnext] at hsp
   rw [member_Plan_walkDays.l1_eq, dp cT, cond_true, g1]
   simp only [Option.bind_some]
   rw [in_val hP t htT]
   simp only [Option.bind_some]
   by_cases cin : inP r.2.1 s0 pr t
   ·obtain ⟨s1, b1, k1, k2, k3⟩ := perA hP hfr hen (K := K) t A B htT (by omega) (by omega) ⟨g2.1, g2.2.1⟩ hp cin s hs
    have e : memC (picP r.2.1 r.2.2.2.2.2.2.2.2.2.2.2.2.2.2.1 s0 F pr h m c) fr en (A * 86400) ((B + 1) * 86400) = memC (picP r.2.1 r.2.2.2.2.2.2.2.2.2.2.2.2.2.2.1 s0 F pr h m c) fr en t ((B + 1) * 86400) := memC_ext _ fr en fun x q1 q2 => by
     constructor
     ·rintro ⟨q, q3, q4⟩
      refine ⟨q, ?_, q4⟩
      refine Classical.byContradiction fun z => ?_
      exact hI cT x q.1.1 q1 (by omega) ((hp x q.1.1).2 ⟨by omega, by omega⟩)
     ·rintro ⟨q, q3, q4⟩
      exact ⟨q, by omega, q4⟩
    rw [e] at k1
    rw [dp cin, cond_true, k3]
    simp only [Option.bind_some]
    rw [member_Plan_walkDays.l2_eq]
    cases b1 with
    | false => exact ⟨s1, false, runA_stop hsp k1, rfl⟩
    | true =>
     obtain ⟨s', b, h1, h2⟩ := ih' s1 (k2 rfl)
     refine ⟨s', b, runA_app hsp k1 h1, ?_⟩
     rw [Bool.not_true, cond_false, hw1, hw2]
     exact h2
   ·have e : memC (picP r.2.1 r.2.2.2.2.2.2.2.2.2.2.2.2.2.2.1 s0 F pr h m c) fr en t ((B + 1) * 86400) = [] := memC_none _ fr en fun x _ _ q3 q4 q => by
     have q5 := q.1.2.2.1
     unfold inP at cin q5
     rw [(hp x q.1.1).2 ⟨by omega, by omega⟩] at q5
     exact cin q5
    rw [e, List.nil_append] at hsp
    obtain ⟨s', b, h1, h2⟩ := ih' s hs
    refine ⟨s', b, by rw [← hsp]; exact h1, ?_⟩
    rw [dn cin, cond_false, member_Plan_walkDays.l2_eq, cond_false, hw1, hw2]
    exact h2
  ·exact hstop t cT s hs
theorem daysA (hf : r.1 ≤ 4) (hs0 : s0 ≤ fr) (hen2 : en ≤ 253402300800) (s : List Int) (hs : invA K s) :
  ∃ s' b, run (yA K) s (memL (picP r.2.1 r.2.2.2.2.2.2.2.2.2.2.2.2.2.2.1 s0 F pr h m c) fr en) = (s', b) ∧ member_Plan_walkDays.f P fr en ((fr, ()), (en, ()), (clA K s, ()), ()) = some (((fr, ()), (en, ()), (clA K s', ()), ()), ()) := by
 obtain ⟨s', b, h1, h2⟩ := daysA_l1 hP hfr hen (K := K) hf hs0 hen2 _ fr (Nat.le_refl _) (Int.le_refl _) (fun _ x _ q1 q2 => by omega) s hs
 rw [memC_full] at h1
 refine ⟨s', b, h1, ?_⟩
 rw [member_Plan_walkDays.f_eq]
 exact h2
end
section
variable {K fr en : Int} {P : PlT}
theorem minlA_l2a {c : List Int} (hc : okT c 59) (at_ t : Int) (ht : -63000000000 ≤ t ∧ t ≤ 300000000000) (m : List Int) (ml i : Int) (s : List Int) : ∀ (n j : Nat), c.length - j = n → j ≤ c.length → ∀ acc : List Int, acc.length ≤ j →
  member_Plan_minutesOf.l2a at_ t m ml i c (c.length : Int) (j : Int) fr en K s P acc = (member_Plan_Pick.f P (acc ++ (c.drop j).map fun x => t + x)).bind fun q => member_Plan_minutesOf.l3 at_ q.1 m ml i fr en K s P := by
 have hlim : limit = 17179869184 := rfl
 have lc := hc.2.2
 intro n
 induction n with
 | zero =>
  intro j hn hj acc ha
  have e : j = c.length := by omega
  subst e
  rw [member_Plan_minutesOf.l2a_eq, dn (show ¬ (c.length : Int) < (c.length : Int) by omega), cond_false, List.drop_length, List.map_nil, List.append_nil]
 | succ n ih =>
  intro j hn hj acc ha
  have hlt : j < c.length := by omega
  have hx := hc.2.1 _ (get_mem hlt)
  have ih' := ih (j + 1) (by omega) (by omega) (acc ++ [t + c.getD j 0]) (by rw [len_snoc]; omega)
  rw [Int.natCast_add, Int.natCast_one] at ih'
  rw [member_Plan_minutesOf.l2a_eq, Int.toNat_natCast, drop_getD' 0 hlt]
  generalize c.getD j 0 = x at hx ih' ⊢
  simp (disch := omega) only [ss, cond_true, cond_false, Option.bind_some, List.length_singleton, hlim]
  rw [ih', List.append_assoc]
  rfl
theorem minlA {c : List Int} (hc : okT c 59) (at_ t : Int) (ht : -63000000000 ≤ t ∧ t ≤ 300000000000) (m : List Int) (ml i : Int) (s : List Int) :
  member_Plan_minutesOf.l2 at_ t m ml i c (c.length : Int) 0 fr en K s P = (member_Plan_Pick.f P (minL t c)).bind fun q => member_Plan_minutesOf.l3 at_ q.1 m ml i fr en K s P := by
 have hlim : limit = 17179869184 := rfl
 have lc := hc.2.2
 rw [member_Plan_minutesOf.l2_eq]
 unfold minL
 cases c with
 | nil => rfl
 | cons x c =>
  have hx := hc.2.1 x (List.mem_cons_self ..)
  have h := minlA_l2a (K := K) (fr := fr) (en := en) (P := P) hc at_ t ht m ml i s c.length 1 (by rw [List.length_cons]; omega) (by rw [List.length_cons]; omega) [t + x] (by simp)
  have hlen : ((x :: c).length : Int) > 0 := by rw [List.length_cons]; omega
  have hw : IntKind.i64.wrap (t + x) = t + x := wr (by omega) (by omega)
  rw [dp (show (0 : Int) < ((x :: c).length : Int) by omega), cond_true, dp (show (0 : Int) ≤ 0 by omega), cond_true, cond_true, tn_0, List.getD_cons_zero, hw]
  rw [dp (show ([] : List Int).length + [t + x].length ≤ limit by rw [hlim]; simp), cond_true]
  exact h
theorem hourlA_l3 {c : List Int} (hc : okT c 59) (at_ t b : Int) (ht : -63000000000 ≤ t ∧ t ≤ 300000000000) (hb : 0 ≤ b ∧ b ≤ 59) (h : List Int) (hl i : Int) (m : List Int) (ml j : Int) (s : List Int) (N : Nat) (hN : N ≤ 3600) : ∀ (n k : Nat), c.length - k = n → k ≤ c.length → ∀ acc : List Int, acc.length ≤ N + k →
  member_Plan_hoursOf.l3 at_ t b h hl i m ml j c (c.length : Int) (k : Int) fr en K s P acc = member_Plan_hoursOf.l2 at_ t h hl i m ml (IntKind.i64.wrap (j + 1)) fr en K s P (acc ++ (c.drop k).map fun x => t + 60 * b + x) := by
 have hlim : limit = 17179869184 := rfl
 have lc := hc.2.2
 intro n
 induction n with
 | zero =>
  intro k hn hk acc ha
  have e : k = c.length := by omega
  subst e
  rw [member_Plan_hoursOf.l3_eq, dn (show ¬ (c.length : Int) < (c.length : Int) by omega), cond_false, List.drop_length, List.map_nil, List.append_nil]
 | succ n ih =>
  intro k hn hk acc ha
  have hlt : k < c.length := by omega
  have hx := hc.2.1 _ (get_mem hlt)
  have ih' := ih (k + 1) (by omega) (by omega) (acc ++ [t + 60 * b + c.getD k 0]) (by rw [len_snoc]; omega)
  rw [Int.natCast_add, Int.natCast_one] at ih'
  rw [member_Plan_hoursOf.l3_eq, Int.toNat_natCast, drop_getD' 0 hlt]
  generalize c.getD k 0 = x at hx ih' ⊢
  simp (disch := omega) only [ss, cond_true, cond_false, Option.bind_some, List.length_singleton, hlim]
  rw [ih', List.append_assoc]
  rfl
theorem hourlA_l2 {m c : List Int} (hP : P.2.2.2.2.2.1 = c) (om : okT m 59) (hc : okT c 59) (at_ t : Int) (ht : -63000000000 ≤ t ∧ t ≤ 300000000000) (h : List Int) (hl i : Int) (s : List Int) : ∀ (n j : Nat), m.length - j = n → j ≤ m.length → ∀ acc : List Int, acc.length ≤ 60 * j →
  member_Plan_hoursOf.l2 at_ t h hl i m (m.length : Int) (j : Int) fr en K s P acc = member_Plan_hoursOf.l2 at_ t h hl i m (m.length : Int) (m.length : Int) fr en K s P (acc ++ (m.drop j).flatMap fun b => minL (t + 60 * b) c) := by
 have lc := hc.2.2
 have lm := om.2.2
 intro n
 induction n with
 | zero =>
  intro j hn hj acc ha
  have e : j = m.length := by omega
  subst e
  rw [List.drop_length, List.flatMap_nil, List.append_nil]
 | succ n ih =>
  intro j hn hj acc ha
  have hlt : j < m.length := by omega
  have hx := om.2.1 _ (get_mem hlt)
  have hw : IntKind.i64.wrap ((j : Int) + 1) = ((j + 1 : Nat) : Int) := wr_succ (by omega)
  rw [member_Plan_hoursOf.l2_eq, Int.toNat_natCast, drop_getD' 0 hlt, List.flatMap_cons, hP]
  generalize m.getD j 0 = b at hx ⊢
  have h3 := hourlA_l3 (K := K) (fr := fr) (en := en) (P := P) hc at_ t b ht hx h hl i m (m.length : Int) (j : Int) s (60 * j) (by omega) c.length 0 (by omega) (Nat.zero_le _) acc (by omega)
  rw [Int.natCast_zero, List.drop_zero, hw] at h3
  have ih' := ih (j + 1) (by omega) (by omega) (acc ++ minL (t + 60 * b) c) (by unfold minL; rw [List.length_append, List.length_map]; omega)
  rw [dp (show (j : Int) < (m.length : Int) by omega), dp (show (0 : Int) ≤ (j : Int) by omega), cond_true, cond_true, cond_true, h3]
  rw [List.append_assoc] at ih'
  exact ih'
end
section
variable {P : PlT} {r : Rl} {s0 : Int} {F : Int → Bool} {pr : Int → Int} {h m c : List Int} (hP : PlanOK P r s0 F pr h m c) {K fr en : Int} (hfr : -63000000000 ≤ fr ∧ fr ≤ 300000000000) (hen : -63000000000 ≤ en ∧ en ≤ 300000000000)
include hP
theorem minsA_l1 (d a : Int) (hd : -719162 ≤ d ∧ d ≤ 2932896) (ha : a ∈ h) (hF : F d = true) (hf : r.1 = 6 ∨ r.1 = 7) : ∀ (n i : Nat), m.length - i = n → i ≤ m.length → ∀ s : List Int, invA K s →
  ∃ s' b, run (yA K) s (memC (fun x => picP r.2.1 r.2.2.2.2.2.2.2.2.2.2.2.2.2.2.1 s0 F pr h m c x ∧ (x - (d * 86400 + 3600 * a)) / 60 ∈ m.drop i) fr en (d * 86400 + 3600 * a) (d * 86400 + 3600 * a + 3600)) = (s', b) ∧ (b = true → invA K s') ∧
   member_Plan_minutesOf.l1 (d * 86400 + 3600 * a) m (m.length : Int) (i : Int) fr en K s P = some (b, ((fr, ()), (en, ()), (clA K s', ()), ()), ()) := by
 have lm := hP.om.2.2
 have lc := hP.oc.2.2
 have ha0 := hP.oh.2.1 a ha
 intro n
 induction n with
 | zero =>
  intro i hn hi s hs
  have e : i = m.length := by omega
  subst e
  refine ⟨s, true, by rw [memC_none _ fr en (fun x _ _ _ _ q => by rw [List.drop_length] at q; exact absurd q.2 (by simp))]; rfl, fun _ => hs, ?_⟩
  rw [member_Plan_minutesOf.l1_eq]
  simp (disch := omega) only [ss, cond_true, cond_false, Option.bind_some]
 | succ n ih =>
  intro i hn hi s hs
  have hlt : i < m.length := by omega
  have ih' := ih (i + 1) (by omega) (by omega)
  rw [Int.natCast_add, Int.natCast_one] at ih'
  have hbm := get_mem hlt
  have hb0 := hP.om.2.1 _ hbm
  have hrd : Rise (m.drop i) := List.Pairwise.sublist (List.drop_sublist i m) hP.om.1
  rw [drop_getD' 0 hlt] at hrd ⊢
  have hgb : m.getD (i : Int).toNat 0 = m.getD i 0 := by rw [Int.toNat_natCast]
  rw [member_Plan_minutesOf.l1_eq, hgb]
  generalize m.getD i 0 = b at hbm hb0 hrd ⊢
  have hsp := memC_head (picP r.2.1 r.2.2.2.2.2.2.2.2.2.2.2.2.2.2.1 s0 F pr h m c) fr en (a := b) (l := m.drop (i + 1)) (lo := d * 86400 + 3600 * a) (hi := d * 86400 + 3600 * a + 3600) (a1 := d * 86400 + 3600 * a + 60 * b) (a2 := d * 86400 + 3600 * a + 60 * b + 60)
   (fun x => (x - (d * 86400 + 3600 * a)) / 60) hrd (fun x y q => by omega) (fun x _ => by constructor <;> intro q <;> omega)
  have w1 : IntKind.i64.wrap (d * 86400 + 3600 * a + IntKind.i64.wrap ((60 : Int) * b)) = d * 86400 + 3600 * a + 60 * b := by rw [wr (x := (60 : Int) * b) (by omega) (by omega), wr (by omega) (by omega)]
  have w2 : IntKind.i64.wrap ((i : Int) + 1) = (i : Int) + 1 := wr (by omega) (by omega)
  have htT : inT (d * 86400 + 3600 * a + 60 * b) := by unfold inT; omega
  have fin : ∀ L : List Int, L.length ≤ 1000000 → L.filter (inW fr en) = memC (picP r.2.1 r.2.2.2.2.2.2.2.2.2.2.2.2.2.2.1 s0 F pr h m c) fr en (d * 86400 + 3600 * a + 60 * b) (d * 86400 + 3600 * a + 60 * b + 60) →
    ∃ s' b', run (yA K) s (memC (fun x => picP r.2.1 r.2.2.2.2.2.2.2.2.2.2.2.2.2.2.1 s0 F pr h m c x ∧ (x - (d * 86400 + 3600 * a)) / 60 ∈ b :: m.drop (i + 1)) fr en (d * 86400 + 3600 * a) (d * 86400 + 3600 * a + 3600)) = (s', b') ∧ (b' = true → invA K s') ∧ member_Plan_minutesOf.l3 (d * 86400 + 3600 * a) L m (m.length : Int) (i : Int) fr en K s P = some (b', ((fr, ()), (en, ()), (clA K s', ()), ()), ()) := by
   intro L hL he
   obtain ⟨s1, b1, g1, g2, g3⟩ := tellA (K := K) (fr := fr) (en := en) hL s hs
   rw [he] at g1
   rw [member_Plan_minutesOf.l3_eq, g3]
   simp only [Option.bind_some]
   cases b1 with
   | false => exact ⟨s1, false, runA_stop hsp g1, (fun q => by cases q), rfl⟩
   | true =>
    obtain ⟨s', b', h1, h2, h3⟩ := ih' s1 (g2 rfl)
    refine ⟨s', b', runA_app hsp g1 h1, h2, ?_⟩
    rw [Bool.not_true, cond_false, w2]
    exact h3
  rw [dp (show (i : Int) < (m.length : Int) by omega), dp (show (0 : Int) ≤ (i : Int) by omega), cond_true, cond_true, cond_true, w1, hP.er]
  by_cases c7 : r.1 = 7
  ·obtain ⟨L, k1, k2, k3⟩ := secs_val hP d a b hd ha hbm hF c7
   rw [dp c7, cond_true, k3]
   simp only [Option.bind_some]
   exact fin L k1 (memC_of _ fr en k2.1 k2.2)
  ·have c6 : r.1 = 6 := by omega
   obtain ⟨k1, k2, k3⟩ := mins_val hP d a b hd ha hbm hF c6
   rw [dn c7, cond_false, in_val hP _ htT]
   simp only [Option.bind_some]
   by_cases cin : inP r.2.1 s0 pr (d * 86400 + 3600 * a + 60 * b)
   ·rw [dp cin, cond_true, hP.ec, minlA (K := K) hP.oc _ _ (by omega) m _ _ s, pick_val hP (rise_minL hP _) (minL_len hP _)]
    simp only [Option.bind_some]
    exact fin _ k1 (memC_of _ fr en k2 (k3 cin))
   ·have e : memC (picP r.2.1 r.2.2.2.2.2.2.2.2.2.2.2.2.2.2.1 s0 F pr h m c) fr en (d * 86400 + 3600 * a + 60 * b) (d * 86400 + 3600 * a + 60 * b + 60) = [] := memC_none _ fr en fun x _ _ q1 q2 q => by
     have q5 := q.1.2.2.1
     unfold inP at cin q5
     rw [hP.p6 c6 x q.1.1, show x / 60 = (d * 86400 + 3600 * a + 60 * b) / 60 by omega, ← hP.p6 c6 _ htT] at q5
     exact cin q5
    rw [e, List.nil_append] at hsp
    obtain ⟨s1, b1, g1, g2, g3⟩ := tellA (K := K) (fr := fr) (en := en) (L := []) (Nat.zero_le _) s hs
    have g1 : (s, true) = (s1, b1) := g1
    obtain ⟨rfl, rfl⟩ := Prod.mk.inj g1
    obtain ⟨s', b', h1, h2, h3⟩ := ih' s hs
    refine ⟨s', b', by rw [← hsp]; exact h1, h2, ?_⟩
    rw [dn cin, cond_false, member_Plan_minutesOf.l3a_eq, g3]
    simp only [Option.bind_some]
    rw [Bool.not_true, cond_false, w2]
    exact h3
theorem minsA (d a : Int) (hd : -719162 ≤ d ∧ d ≤ 2932896) (ha : a ∈ h) (hF : F d = true) (hf : r.1 = 6 ∨ r.1 = 7) (s : List Int) (hs : invA K s) :
  ∃ s' b, run (yA K) s (memC (picP r.2.1 r.2.2.2.2.2.2.2.2.2.2.2.2.2.2.1 s0 F pr h m c) fr en (d * 86400 + 3600 * a) (d * 86400 + 3600 * a + 3600)) = (s', b) ∧ (b = true → invA K s') ∧
   member_Plan_minutesOf.f P (d * 86400 + 3600 * a) ((fr, ()), (en, ()), (clA K s, ()), ()) = some (b, ((fr, ()), (en, ()), (clA K s', ()), ()), ()) := by
 obtain ⟨s', b, h1, h2, h3⟩ := minsA_l1 hP (K := K) (fr := fr) (en := en) d a hd ha hF hf m.length 0 (by omega) (Nat.zero_le _) s hs
 have e : memC (picP r.2.1 r.2.2.2.2.2.2.2.2.2.2.2.2.2.2.1 s0 F pr h m c) fr en (d * 86400 + 3600 * a) (d * 86400 + 3600 * a + 3600) = memC (fun x => picP r.2.1 r.2.2.2.2.2.2.2.2.2.2.2.2.2.2.1 s0 F pr h m c x ∧ (x - (d * 86400 + 3600 * a)) / 60 ∈ m.drop 0) fr en (d * 86400 + 3600 * a) (d * 86400 + 3600 * a + 3600) := memC_ext _ fr en fun x _ _ => by
  rw [List.drop_zero]
  constructor
  ·rintro ⟨q, q1, q2⟩
   exact ⟨⟨q, ((raw_hour hP d a x hd ha hF q1 q2).1 q.1).1⟩, q1, q2⟩
  ·rintro ⟨⟨q, _⟩, q1⟩
   exact ⟨q, q1⟩
 refine ⟨s', b, by rw [e]; exact h1, h2, ?_⟩
 rw [Int.natCast_zero] at h3
 rw [member_Plan_minutesOf.f_eq, hP.em]
 exact h3
theorem hrsA_l1 (d : Int) (hd : -719162 ≤ d ∧ d ≤ 2932896) (hF : F d = true) (hf : 4 < r.1) : ∀ (n i : Nat), h.length - i = n → i ≤ h.length → ∀ s : List Int, invA K s →
  ∃ s' b, run (yA K) s (memC (fun x => picP r.2.1 r.2.2.2.2.2.2.2.2.2.2.2.2.2.2.1 s0 F pr h m c x ∧ (x - d * 86400) / 3600 ∈ h.drop i) fr en (d * 86400) (d * 86400 + 86400)) = (s', b) ∧ (b = true → invA K s') ∧
   member_Plan_hoursOf.l1 (d * 86400) h (h.length : Int) (i : Int) fr en K s P = some (b, ((fr, ()), (en, ()), (clA K s', ()), ()), ()) := by
 have lh := hP.oh.2.2
 have hfr7 := hP.fr
 intro n
 induction n with
 | zero =>
  intro i hn hi s hs
  have e : i = h.length := by omega
  subst e
  refine ⟨s, true, by rw [memC_none _ fr en (fun x _ _ _ _ q => by rw [List.drop_length] at q; exact absurd q.2 (by simp))]; rfl, fun _ => hs, ?_⟩
  rw [member_Plan_hoursOf.l1_eq]
  simp (disch := omega) only [ss, cond_true, cond_false, Option.bind_some]
 | succ n ih =>
  intro i hn hi s hs
  have hlt : i < h.length := by omega
  have ih' := ih (i + 1) (by omega) (by omega)
  rw [Int.natCast_add, Int.natCast_one] at ih'
  have hbm := get_mem hlt
  have hb0 := hP.oh.2.1 _ hbm
  have hrd : Rise (h.drop i) := List.Pairwise.sublist (List.drop_sublist i h) hP.oh.1
  rw [drop_getD' 0 hlt] at hrd ⊢
  have hgb : h.getD (i : Int).toNat 0 = h.getD i 0 := by rw [Int.toNat_natCast]
  rw [member_Plan_hoursOf.l1_eq, hgb]
  generalize h.getD i 0 = a at hbm hb0 hrd ⊢
  have hsp := memC_head (picP r.2.1 r.2.2.2.2.2.2.2.2.2.2.2.2.2.2.1 s0 F pr h m c) fr en (a := a) (l := h.drop (i + 1)) (lo := d * 86400) (hi := d * 86400 + 86400) (a1 := d * 86400 + 3600 * a) (a2 := d * 86400 + 3600 * a + 3600)
   (fun x => (x - d * 86400) / 3600) hrd (fun x y q => by omega) (fun x _ => by constructor <;> intro q <;> omega)
  have w1 : IntKind.i64.wrap (d * 86400 + IntKind.i64.wrap ((3600 : Int) * a)) = d * 86400 + 3600 * a := by rw [wr (x := (3600 : Int) * a) (by omega) (by omega), wr (by omega) (by omega)]
  have w2 : IntKind.i64.wrap ((i : Int) + 1) = (i : Int) + 1 := wr (by omega) (by omega)
  have htT : inT (d * 86400 + 3600 * a) := by unfold inT; omega
  rw [dp (show (i : Int) < (h.length : Int) by omega), dp (show (0 : Int) ≤ (i : Int) by omega), cond_true, cond_true, cond_true, w1, w2, hP.er]
  by_cases c5 : r.1 > 5
  ·obtain ⟨s1, b1, g1, g2, g3⟩ := minsA hP (K := K) (fr := fr) (en := en) d a hd hbm hF (by omega) s hs
   rw [dp c5, cond_true, g3]
   simp only [Option.bind_some]
   cases b1 with
   | false => exact ⟨s1, false, runA_stop hsp g1, (fun q => by cases q), rfl⟩
   | true =>
    obtain ⟨s', b', h1, h2, h3⟩ := ih' s1 (g2 rfl)
    refine ⟨s', b', runA_app hsp g1 h1, h2, ?_⟩
    rw [Bool.not_true, cond_false]
    exact h3
  ·have c5' : r.1 = 5 := by omega
   obtain ⟨k1, k2, k3⟩ := hrs_val hP d a hd hbm hF c5'
   rw [dn c5, cond_false, in_val hP _ htT]
   simp only [Option.bind_some]
   by_cases cin : inP r.2.1 s0 pr (d * 86400 + 3600 * a)
   ·obtain ⟨s1, b1, g1, g2, g3⟩ := tellA (K := K) (fr := fr) (en := en) k1 s hs
    rw [memC_of _ fr en k2 (k3 cin)] at g1
    have hl2 := hourlA_l2 (K := K) (fr := fr) (en := en) (P := P) hP.ec hP.om hP.oc (d * 86400) (d * 86400 + 3600 * a) (by omega) h (h.length : Int) (i : Int) s m.length 0 (by omega) (Nat.zero_le _) [] (Nat.zero_le _)
    rw [Int.natCast_zero, List.drop_zero, List.nil_append] at hl2
    have hpk := pick_val hP (rise_hourL hP.om.1 hP.oc.1 hP.oc.2.1 (d * 86400 + 3600 * a)) (Nat.le_trans (hourL_len hP _) (by decide))
    unfold hourL at hpk g3 k1 k2 k3
    rw [dp cin, Bool.not_true, cond_false, hP.em, hl2, member_Plan_hoursOf.l2_eq, dn (show ¬ (m.length : Int) < (m.length : Int) by omega), cond_false, hpk]
    simp only [Option.bind_some]
    rw [g3]
    simp only [Option.bind_some]
    cases b1 with
    | false => exact ⟨s1, false, runA_stop hsp g1, (fun q => by cases q), rfl⟩
    | true =>
     obtain ⟨s', b', h1, h2, h3⟩ := ih' s1 (g2 rfl)
     refine ⟨s', b', runA_app hsp g1 h1, h2, ?_⟩
     rw [Bool.not_true, cond_false, w2]
     exact h3
   ·have e : memC (picP r.2.1 r.2.2.2.2.2.2.2.2.2.2.2.2.2.2.1 s0 F pr h m c) fr en (d * 86400 + 3600 * a) (d * 86400 + 3600 * a + 3600) = [] := memC_none _ fr en fun x _ _ q1 q2 q => by
     have q5 := q.1.2.2.1
     unfold inP at cin q5
     rw [hP.p5 c5' x q.1.1, show x / 3600 = (d * 86400 + 3600 * a) / 3600 by omega, ← hP.p5 c5' _ htT] at q5
     exact cin q5
    rw [e, List.nil_append] at hsp
    obtain ⟨s', b', h1, h2, h3⟩ := ih' s hs
    refine ⟨s', b', by rw [← hsp]; exact h1, h2, ?_⟩
    rw [dn cin, Bool.not_false, cond_true]
    exact h3
theorem hrsA (d : Int) (hd : -719162 ≤ d ∧ d ≤ 2932896) (hF : F d = true) (hf : 4 < r.1) (s : List Int) (hs : invA K s) :
  ∃ s' b, run (yA K) s (memC (picP r.2.1 r.2.2.2.2.2.2.2.2.2.2.2.2.2.2.1 s0 F pr h m c) fr en (d * 86400) ((d + 1) * 86400)) = (s', b) ∧ (b = true → invA K s') ∧
   member_Plan_hoursOf.f P (d * 86400) ((fr, ()), (en, ()), (clA K s, ()), ()) = some (b, ((fr, ()), (en, ()), (clA K s', ()), ()), ()) := by
 obtain ⟨s', b, h1, h2, h3⟩ := hrsA_l1 hP (K := K) (fr := fr) (en := en) d hd hF hf h.length 0 (by omega) (Nat.zero_le _) s hs
 have e : memC (picP r.2.1 r.2.2.2.2.2.2.2.2.2.2.2.2.2.2.1 s0 F pr h m c) fr en (d * 86400) ((d + 1) * 86400) = memC (fun x => picP r.2.1 r.2.2.2.2.2.2.2.2.2.2.2.2.2.2.1 s0 F pr h m c x ∧ (x - d * 86400) / 3600 ∈ h.drop 0) fr en (d * 86400) (d * 86400 + 86400) := memC_ext _ fr en fun x _ _ => by
  rw [List.drop_zero]
  constructor
  ·rintro ⟨q, q1, q2⟩
   have := ((mem_tod hP.om.2.1 hP.oc.2.1 _).1 q.1.2.1).1
   rw [show x % 86400 / 3600 = (x - d * 86400) / 3600 by omega] at this
   exact ⟨⟨q, this⟩, q1, by omega⟩
  ·rintro ⟨⟨q, _⟩, q1, q2⟩
   exact ⟨q, q1, by omega⟩
 refine ⟨s', b, by rw [e]; exact h1, h2, ?_⟩
 rw [Int.natCast_zero] at h3
 rw [member_Plan_hoursOf.f_eq, hP.eh]
 exact h3
theorem timsA_l1 (hf : 4 < r.1) (D : Int) (hD : D ≤ 2932897) : ∀ (n : Nat) (d : Int), (D + 1 - d).toNat = n → -800000 ≤ d → ∀ s : List Int, invA K s →
  ∃ s' b, run (yA K) s (memC (picP r.2.1 r.2.2.2.2.2.2.2.2.2.2.2.2.2.2.1 s0 F pr h m c) fr en (d * 86400) ((D + 1) * 86400)) = (s', b) ∧ member_Plan_walkTimes.l1 D d fr en K s P = some (((fr, ()), (en, ()), (clA K s', ()), ()), ()) := by
 intro n
 induction n with
 | zero =>
  intro d hn hd s hs
  refine ⟨s, true, by rw [memC_none _ fr en (fun x _ _ h1 h2 => by omega)]; rfl, ?_⟩
  rw [member_Plan_walkTimes.l1_eq, dn (show ¬ d ≤ D by omega), cond_false]
 | succ n ih =>
  intro d hn hd s hs
  have hdD : d ≤ D := by omega
  have hw : IntKind.i64.wrap (d + 1) = d + 1 := wr (by omega) (by omega)
  have hw2 : IntKind.i64.wrap (d * 86400) = d * 86400 := wr (by omega) (by omega)
  have hsp := memC_split (picP r.2.1 r.2.2.2.2.2.2.2.2.2.2.2.2.2.2.1 s0 F pr h m c) fr en (a := d * 86400) (b := (d + 1) * 86400) (c := (D + 1) * 86400) (by omega) (by omega)
  have ih' := ih (d + 1) (by omega) (by omega)
  rw [member_Plan_walkTimes.l1_eq, dp hdD, cond_true, member_Plan_Fits.f_eq, hP.fits d]
  simp only [Option.bind_some]
  cases hF : F d with
  | false =>
   rw [memC_none _ fr en (fun x _ _ q1 q2 q => by
    have q := q.1.2.2.2
    rw [show x / 86400 = d by omega, hF] at q
    cases q), List.nil_append] at hsp
   obtain ⟨s', b, h1, h2⟩ := ih' s hs
   refine ⟨s', b, by rw [← hsp]; exact h1, ?_⟩
   rw [cond_false, member_Plan_walkTimes.l2_eq, cond_false, hw]
   exact h2
  | true =>
   obtain ⟨s1, b1, g1, g2, g3⟩ := hrsA hP (K := K) (fr := fr) (en := en) d (hP.fin d hF) hF hf s hs
   rw [cond_true, hw2, g3]
   simp only [Option.bind_some]
   rw [member_Plan_walkTimes.l2_eq]
   cases b1 with
   | false => exact ⟨s1, false, runA_stop hsp g1, rfl⟩
   | true =>
    obtain ⟨s', b, h1, h2⟩ := ih' s1 (g2 rfl)
    refine ⟨s', b, runA_app hsp g1 h1, ?_⟩
    rw [Bool.not_true, cond_false, hw]
    exact h2
include hfr hen
theorem timsA (hf : 4 < r.1) (hen2 : en ≤ 253402300800) (s : List Int) (hs : invA K s) :
  ∃ s' b, run (yA K) s (memL (picP r.2.1 r.2.2.2.2.2.2.2.2.2.2.2.2.2.2.1 s0 F pr h m c) fr en) = (s', b) ∧ member_Plan_walkTimes.f P fr en ((fr, ()), (en, ()), (clA K s, ()), ()) = some (((fr, ()), (en, ()), (clA K s', ()), ()), ()) := by
 have hd1 := (mday_spec fr (by omega) (by omega)).1
 have hd2 := (mday_spec en (by omega) (by omega)).1
 obtain ⟨s', b, h1, h2⟩ := timsA_l1 hP (K := K) (fr := fr) (en := en) hf (en / 86400) (by omega) _ (fr / 86400) rfl (by omega) s hs
 have e : memC (picP r.2.1 r.2.2.2.2.2.2.2.2.2.2.2.2.2.2.1 s0 F pr h m c) fr en fr en = memC (picP r.2.1 r.2.2.2.2.2.2.2.2.2.2.2.2.2.2.1 s0 F pr h m c) fr en (fr / 86400 * 86400) ((en / 86400 + 1) * 86400) := memC_ext _ fr en fun x q1 q2 => ⟨fun q => ⟨q.1, by omega, by omega⟩, fun q => ⟨q.1, q1, q2⟩⟩
 rw [← memC_full, e]
 refine ⟨s', b, h1, ?_⟩
 rw [member_Plan_walkTimes.f_eq, hd1, hd2]
 exact h2
omit hfr hen
theorem walkA (hu : r.2.2.2.2.2.1 = true → inT r.2.2.2.1) (f0 e0 : Int) (hf0 : -63000000000 ≤ f0 ∧ f0 ≤ 300000000000) (he0 : -63000000000 ≤ e0 ∧ e0 ≤ 253402300799) (s : List Int) (hs : invA K s) :
  member_Plan_Walk.f P f0 e0 (clA K s) = some (clA K (run (yA K) s (memL (belP r.2.1 r.2.2.2.1 r.2.2.2.2.2.1 r.2.2.2.2.2.2.2.2.2.2.2.2.2.2.1 s0 F pr h m c) f0 e0)).1, ()) := by
 have hS := hP.inS
 unfold inT at hS
 have hgo : ∀ fr en : Int, s0 ≤ fr → -63000000000 ≤ fr ∧ fr ≤ 300000000000 → -63000000000 ≤ en ∧ en ≤ 253402300800 → memL (picP r.2.1 r.2.2.2.2.2.2.2.2.2.2.2.2.2.2.1 s0 F pr h m c) fr en = memL (belP r.2.1 r.2.2.2.1 r.2.2.2.2.2.1 r.2.2.2.2.2.2.2.2.2.2.2.2.2.2.1 s0 F pr h m c) f0 e0 →
   member_Plan_Walk.l1 K s P fr en = some (clA K (run (yA K) s (memL (belP r.2.1 r.2.2.2.1 r.2.2.2.2.2.1 r.2.2.2.2.2.2.2.2.2.2.2.2.2.2.1 s0 F pr h m c) f0 e0)).1, ()) := by
  intro fr en h1 h2 h3 e
  rw [member_Plan_Walk.l1_eq, hP.er]
  by_cases c5 : r.1 < 5
  ·obtain ⟨s', b, g1, g2⟩ := daysA hP (K := K) h2 (by omega) (by omega) h1 h3.2 s hs
   rw [dp c5, cond_true, g2]
   simp only [Option.bind_some]
   rw [← e, g1]
  ·obtain ⟨s', b, g1, g2⟩ := timsA hP (K := K) h2 (by omega) (by omega) h3.2 s hs
   rw [dn c5, cond_false, g2]
   simp only [Option.bind_some]
   rw [← e, g1]
 rw [member_Plan_Walk.f_eq, hP.er, hP.es, mm_max]
 cases hen : r.2.2.2.2.2.1 with
 | false =>
  rw [hen] at hgo
  rw [cond_false]
  refine hgo _ _ (by omega) (by omega) (by omega) (memL_eq _ (rise_memL _ _ _) fun x => ?_)
  rw [mem_memL, bel_pic]
  constructor
  ·rintro ⟨q, q1, q2⟩
   exact ⟨⟨q, by omega, (fun z => by cases z)⟩, by omega, q2⟩
  ·rintro ⟨⟨q, q1, _⟩, q2, q3⟩
   exact ⟨q, by omega, q3⟩
 | true =>
  have hu := hu hen
  unfold inT at hu
  rw [hen] at hgo
  rw [cond_true, wr (x := r.2.2.2.1 + 1) (by omega) (by omega), mm_min]
  refine hgo _ _ (by omega) (by omega) (by omega) (memL_eq _ (rise_memL _ _ _) fun x => ?_)
  rw [mem_memL, bel_pic]
  constructor
  ·rintro ⟨q, q1, q2⟩
   exact ⟨⟨q, by omega, fun _ => by omega⟩, by omega, by omega⟩
  ·rintro ⟨⟨q, q1, q4⟩, q2, q3⟩
   have := q4 rfl
   exact ⟨q, by omega, by omega⟩
end
end Go.GV.YtdnpbkbklnkjoaaGreatDoor
namespace Go.GV.YtdnpbkbklnkjoaaGreatDoor
open Go.Proofs
abbrev clB (K : Int) (s : Int × Bool) : (Int × Unit) × (Int × Unit) × (Bool × Unit) × Unit := ((K, ()), (s.1, ()), (s.2, ()), ())
abbrev yB := yesN
def invB (_ : Int) (_ : Int × Bool) : Prop := True
theorem yesB {K : Int} {s : Int × Bool} (_ : invB K s) (x : Int) : expand_Next_1.f x (K, ()) (s.1, ()) (s.2, ()) = some ((yB K s x).2, (K, ()), ((yB K s x).1.1, ()), ((yB K s x).1.2, ()), ()) ∧ ((yB K s x).2 = true → invB K (yB K s x).1) := by
 refine ⟨?_, fun _ => trivial⟩
 rw [expand_Next_1.f_eq]
 unfold yB yesN
 by_cases c : x > K
 ·rw [dp c, if_pos c]
  rfl
 ·rw [dn c, if_neg c]
  rfl
section
variable {K fr en : Int}
theorem tellB_l1 {L : List Int} (hl : L.length ≤ 1000000) : ∀ (n i : Nat), L.length - i = n → i ≤ L.length → ∀ s : Int × Bool, invB K s →
  ∃ s' b, run (yB K) s ((L.drop i).filter (inW fr en)) = (s', b) ∧ (b = true → invB K s') ∧ member_Plan_Walk_1_1.l1 L (L.length : Int) (i : Int) fr en K s.1 s.2 = some (b, (fr, ()), (en, ()), (clB K s', ()), ()) := by
 intro n
 induction n with
 | zero =>
  intro i hn hi s hs
  have e : i = L.length := by omega
  subst e
  refine ⟨s, true, by rw [List.drop_length]; rfl, fun _ => hs, ?_⟩
  rw [member_Plan_Walk_1_1.l1_eq]
  simp (disch := omega) only [ss, cond_true, cond_false, Option.bind_some]
 | succ n ih =>
  intro i hn hi s hs
  have hlt : i < L.length := by omega
  have ih' := ih (i + 1) (by omega) (by omega)
  rw [Int.natCast_add, Int.natCast_one] at ih'
  rw [member_Plan_Walk_1_1.l1_eq, Int.toNat_natCast, drop_getD' 0 hlt]
  generalize L.getD i 0 = x
  by_cases c : fr ≤ x ∧ x < en
  ·have hin : inW fr en x = true := by
    unfold inW
    rw [dp c.1, dp c.2]
    rfl
   rw [List.filter_cons_of_pos hin, run_cons]
   obtain ⟨hy, hinv⟩ := yesB hs x
   cases hb : (yB K s x).2 with
   | true =>
    obtain ⟨s', b, h1, h2, h3⟩ := ih' _ (hinv hb)
    refine ⟨s', b, by rw [if_pos rfl]; exact h1, h2, ?_⟩
    simp (disch := omega) only [ss, cond_true, cond_false, Option.bind_some, hy, hb, member_Plan_Walk_1_1.l2_eq]
    exact h3
   | false =>
    refine ⟨_, false, by rw [if_neg (by simp)], (fun q => by cases q), ?_⟩
    simp (disch := omega) only [ss, cond_true, cond_false, Option.bind_some, hy, hb, member_Plan_Walk_1_1.l2_eq]
  ·have hin : inW fr en x = false := by
    cases q : inW fr en x with
    | false => rfl
    | true =>
     unfold inW at q
     rw [Bool.and_eq_true, decide_eq_true_eq, decide_eq_true_eq] at q
     exact absurd q c
   rw [List.filter_cons_of_neg (by rw [hin]; simp)]
   obtain ⟨s', b, h1, h2, h3⟩ := ih' s hs
   refine ⟨s', b, h1, h2, ?_⟩
   by_cases c1 : fr ≤ x
   ·simp (disch := omega) only [ss, cond_true, cond_false, Option.bind_some, member_Plan_Walk_1_1.l2_eq]
    exact h3
   ·simp (disch := omega) only [ss, cond_true, cond_false, Option.bind_some, member_Plan_Walk_1_1.l2_eq]
    exact h3
theorem tellB {L : List Int} (hl : L.length ≤ 1000000) (s : Int × Bool) (hs : invB K s) :
  ∃ s' b, run (yB K) s (L.filter (inW fr en)) = (s', b) ∧ (b = true → invB K s') ∧ member_Plan_Walk_1_1.f L (fr, ()) (en, ()) (clB K s, ()) = some (b, (fr, ()), (en, ()), (clB K s', ()), ()) := by
 have h := tellB_l1 (fr := fr) (en := en) hl L.length 0 (by omega) (Nat.zero_le _) s hs
 rw [Int.natCast_zero, List.drop_zero] at h
 rw [member_Plan_Walk_1_1.f_eq]
 exact h
theorem runB_app {s s1 s2 : Int × Bool} {a b c : List Int} {q : Bool} (e : a ++ b = c) (h1 : run (yB K) s a = (s1, true)) (h2 : run (yB K) s1 b = (s2, q)) : run (yB K) s c = (s2, q) := by
 rw [← e, run_app, h1, if_pos rfl, h2]
theorem runB_stop {s s1 : Int × Bool} {a b c : List Int} (e : a ++ b = c) (h1 : run (yB K) s a = (s1, false)) : run (yB K) s c = (s1, false) := by
 rw [← e, run_app, h1, if_neg (by simp)]
end
section
variable {P : PlT} {r : Rl} {s0 : Int} {F : Int → Bool} {pr : Int → Int} {h m c : List Int} (hP : PlanOK P r s0 F pr h m c) {K fr en : Int} (hfr : -63000000000 ≤ fr ∧ fr ≤ 300000000000) (hen : -63000000000 ≤ en ∧ en ≤ 300000000000)
include hP
theorem perB_l1 (W : Int → Prop) (A B hi E : Int) (hE : mm false B hi = E) (hEB : E ≤ B) (hA : -719162 ≤ A) (hB : B ≤ 2932896)
  (hday : ∀ d, A ≤ d → d ≤ B → F d = true → (dayL h m c 0 86400 d).filter (inW fr en) = memC W fr en (d * 86400) ((d + 1) * 86400)) (hno : ∀ d, A ≤ d → d ≤ B → F d = false → memC W fr en (d * 86400) ((d + 1) * 86400) = []) :
  ∀ (n : Nat) (d : Int), (E + 1 - d).toNat = n → A ≤ d → ∀ s : Int × Bool, invB K s →
  ∃ s' b, run (yB K) s (memC W fr en (d * 86400) ((E + 1) * 86400)) = (s', b) ∧ (b = true → invB K s') ∧ member_Plan_period_1.l1 B hi d fr en K s.1 s.2 P = some (b, ((fr, ()), (en, ()), (clB K s', ()), ()), ()) := by
 intro n
 induction n with
 | zero =>
  intro d hn hd s hs
  refine ⟨s, true, by rw [memC_none W fr en (fun x _ _ h1 h2 => by omega)]; rfl, fun _ => hs, ?_⟩
  rw [member_Plan_period_1.l1_eq, hE, dn (show ¬ d ≤ E by omega), cond_false]
 | succ n ih =>
  intro d hn hd s hs
  have hdE : d ≤ E := by omega
  have hw : IntKind.i64.wrap (d + 1) = d + 1 := wr (by omega) (by omega)
  have hsp := memC_split W fr en (a := d * 86400) (b := (d + 1) * 86400) (c := (E + 1) * 86400) (by omega) (by omega)
  rw [member_Plan_period_1.l1_eq, hE, dp hdE, cond_true, member_Plan_Fits.f_eq, hP.fits d]
  simp only [Option.bind_some]
  cases hF : F d with
  | false =>
   rw [hno d hd (by omega) hF, List.nil_append] at hsp
   obtain ⟨s', b, h1, h2, h3⟩ := ih (d + 1) (by omega) (by omega) s hs
   refine ⟨s', b, by rw [← hsp]; exact h1, h2, ?_⟩
   rw [cond_false, member_Plan_period_1.l2_eq, cond_false, hw]
   exact h3
  | true =>
   have hdv := day_val 0 86400 d P 100000 (by omega) (by omega) (by omega) (by omega) (by rw [hP.eh]; exact hP.oh) (by rw [hP.em]; exact hP.om) (by rw [hP.ec]; exact hP.oc)
   rw [hP.eh, hP.em, hP.ec, show ((100000 : Nat) : Int) = 100000 from rfl, List.take_of_length_le (Nat.le_trans (dayL_len hP.oh hP.om hP.oc 0 86400 d) (by decide))] at hdv
   obtain ⟨s1, b1, g1, g2, g3⟩ := tellB (K := K) (fr := fr) (en := en) (L := dayL h m c 0 86400 d) (Nat.le_trans (dayL_len hP.oh hP.om hP.oc 0 86400 d) (by decide)) s hs
   rw [hday d hd (by omega) hF] at g1
   rw [cond_true, hdv]
   simp only [Option.bind_some]
   rw [g3]
   simp only [Option.bind_some]
   cases b1 with
   | false =>
    refine ⟨s1, false, runB_stop hsp g1, (fun q => by cases q), ?_⟩
    rw [member_Plan_period_1.l2_eq, Bool.not_false, cond_true]
   | true =>
    obtain ⟨s', b, h1, h2, h3⟩ := ih (d + 1) (by omega) (by omega) s1 (g2 rfl)
    refine ⟨s', b, runB_app hsp g1 h1, h2, ?_⟩
    rw [member_Plan_period_1.l2_eq, Bool.not_true, cond_false, hw]
    exact h3
include hfr hen
theorem perB (t A B : Int) (ht : inT t) (hA : -719162 ≤ A) (hB : B ≤ 2932896) (hAB : A ≤ t / 86400 ∧ t / 86400 ≤ B) (hp : ∀ x, inT x → (pr x = pr t ↔ A ≤ x / 86400 ∧ x / 86400 ≤ B)) (hin : inP r.2.1 s0 pr t) (s : Int × Bool) (hs : invB K s) :
  ∃ s' b, run (yB K) s (memC (picP r.2.1 r.2.2.2.2.2.2.2.2.2.2.2.2.2.2.1 s0 F pr h m c) fr en (A * 86400) ((B + 1) * 86400)) = (s', b) ∧ (b = true → invB K s') ∧
   member_Plan_period_1.f P t A B fr en ((fr, ()), (en, ()), (clB K s, ()), ()) = some (b, ((fr, ()), (en, ()), (clB K s', ()), ()), ()) := by
 have hpp : ∀ x y, inT x → inT y → A * 86400 ≤ x → x < (B + 1) * 86400 → (pr y = pr x ↔ A * 86400 ≤ y ∧ y < (B + 1) * 86400) := fun x y hx hy h1 h2 => by
  rw [(hp x hx).2 (by omega), hp y hy]
  constructor <;> intro q <;> omega
 rw [member_Plan_period_1.f_eq, hP.er]
 have hpv := fun L hr hl => pick_val hP (L := L) hr hl
 have hpm := fun G (hG : Rise G) (hm : ∀ x, x ∈ G ↔ rawP r.2.1 s0 F pr h m c x ∧ A * 86400 ≤ x ∧ x < (B + 1) * 86400) hlen => mem_pickL (po := r.2.2.2.2.2.2.2.2.2.2.2.2.2.2.1) hG hm hpp hlen
 generalize r.2.2.2.2.2.2.2.2.2.2.2.2.2.2.1 = po at hpv hpm ⊢
 by_cases cp : po = []
 ·have hd1 := (mday_spec fr (by omega) (by omega)).1
  have hd2 := (mday_spec en (by omega) (by omega)).1
  obtain ⟨E, hE⟩ : ∃ E, mm false B (en / 86400) = E := ⟨_, rfl⟩
  obtain ⟨D, hD⟩ : ∃ D, mm true A (fr / 86400) = D := ⟨_, rfl⟩
  have hE' := hE
  have hD' := hD
  rw [mm_min] at hE'
  rw [mm_max] at hD'
  have hraw : ∀ x, picP r.2.1 po s0 F pr h m c x ↔ rawP r.2.1 s0 F pr h m c x := fun x => ⟨fun q => q.1, fun q => ⟨q, .inl cp⟩⟩
  have hl := perB_l1 hP (K := K) (picP r.2.1 po s0 F pr h m c) A B (en / 86400) E hE (by omega) hA hB
   (fun d h1 h2 hF => memC_of _ fr en (rise_dayL hP.oh.1 hP.om.1 hP.oc.1 hP.om.2.1 hP.oc.2.1 0 86400 d) fun x => by
    rw [mem_dayL hP.oh.2.1 hP.om.2.1 hP.oc.2.1, hraw]
    constructor
    ·rintro ⟨q1, q2, q3, q4⟩
     have hx : inT x := by unfold inT; omega
     refine ⟨⟨hx, q2, ?_, by rw [q1]; exact hF⟩, by omega, by omega⟩
     unfold inP at hin ⊢
     rw [(hp x hx).2 (by omega)]
     exact hin
    ·rintro ⟨q, q1, q2⟩
     exact ⟨by omega, q.2.1, by omega, by omega⟩)
   (fun d h1 h2 hF => memC_none _ fr en fun x _ _ q1 q2 q => by
    have q := ((hraw x).1 q).2.2.2
    rw [show x / 86400 = d by omega, hF] at q
    cases q) (E + 1 - D).toNat D rfl (by omega) s hs
  obtain ⟨s', b, h1, h2, h3⟩ := hl
  have e : memC (picP r.2.1 po s0 F pr h m c) fr en (A * 86400) ((B + 1) * 86400) = memC (picP r.2.1 po s0 F pr h m c) fr en (D * 86400) ((E + 1) * 86400) := memC_ext _ fr en fun x q1 q2 => by
   constructor
   ·rintro ⟨q, q3, q4⟩
    exact ⟨q, by omega, by omega⟩
   ·rintro ⟨q, q3, q4⟩
    exact ⟨q, by omega, by omega⟩
  refine ⟨s', b, by rw [e]; exact h1, h2, ?_⟩
  rw [dn (show ¬ (po.length : Int) > 0 by rw [cp]; simp), cond_false, hd1, hd2]
  simp only [Option.bind_some]
  rw [hD]
  exact h3
 ·have hpos := ne_len.1 cp
  obtain ⟨G, G1, G2, G3⟩ := set_val hP t ht
  have g := G3 100000 (by omega)
  rw [show ((100000 : Nat) : Int) = 100000 from rfl] at g
  have hlen : (G.take (100000 + 1)).length ≤ 1000000 := by rw [List.length_take]; omega
  have hm : ∀ x, x ∈ G ↔ rawP r.2.1 s0 F pr h m c x ∧ A * 86400 ≤ x ∧ x < (B + 1) * 86400 := fun x => by
   rw [G2]
   constructor
   ·rintro ⟨q, q1⟩
    have := (hp x q.1).1 q1
    exact ⟨q, by omega, by omega⟩
   ·rintro ⟨q, q1⟩
    exact ⟨q, (hp x q.1).2 (by omega)⟩
  have hpk := hpv _ (rise_take G1 (100000 + 1)) hlen
  have hlp : (pickL po (G.take (100000 + 1))).length ≤ 1000000 := Nat.le_trans (pickL_len po _) hlen
  obtain ⟨s', b, h1, h2, h3⟩ := tellB (K := K) (fr := fr) (en := en) hlp s hs
  rw [memC_of _ fr en (rise_pickL (rise_take G1 (100000 + 1))) (hpm G G1 hm (fun q => absurd q cp))] at h1
  refine ⟨s', b, h1, h2, ?_⟩
  rw [dp hpos, cond_true, g]
  simp only [Option.bind_some]
  rw [hpk]
  simp only [Option.bind_some]
  rw [h3]
  rfl
theorem daysB_l1 (hf : r.1 ≤ 4) (hs0 : s0 ≤ fr) (hen2 : en ≤ 253402300800) : ∀ (n : Nat) (t : Int), (en - t).toNat ≤ n → fr ≤ t → (t < en → ∀ x, inT x → fr ≤ x → x < t → pr x ≠ pr t) → ∀ s : Int × Bool, invB K s →
  ∃ s' b, run (yB K) s (memC (picP r.2.1 r.2.2.2.2.2.2.2.2.2.2.2.2.2.2.1 s0 F pr h m c) fr en t en) = (s', b) ∧ member_Plan_walkDays_1.l1 fr en t fr en K s.1 s.2 P = some (((fr, ()), (en, ()), (clB K s', ()), ()), ()) := by
 have hstop : ∀ t : Int, ¬ t < en → ∀ s : Int × Bool, invB K s → ∃ s' b, run (yB K) s (memC (picP r.2.1 r.2.2.2.2.2.2.2.2.2.2.2.2.2.2.1 s0 F pr h m c) fr en t en) = (s', b) ∧ member_Plan_walkDays_1.l1 fr en t fr en K s.1 s.2 P = some (((fr, ()), (en, ()), (clB K s', ()), ()), ()) := fun t c s hs => by
  refine ⟨s, true, by rw [memC_none _ fr en (fun x _ _ h1 h2 => by omega)]; rfl, ?_⟩
  rw [member_Plan_walkDays_1.l1_eq, dn c, cond_false]
 intro n
 induction n with
 | zero =>
  intro t hn ht hI s hs
  exact hstop t (by omega) s hs
 | succ n ih =>
  intro t hn ht hI s hs
  by_cases cT : t < en
  ·have hS := hP.inS
   have htT : inT t := by unfold inT at hS ⊢; omega
   obtain ⟨A, B, g1, g2, g3, _⟩ := hP.days t htT
   have hp := g3 hf
   have hw1 : IntKind.i64.wrap (B + 1) = B + 1 := wr (by omega) (by omega)
   have hw2 : IntKind.i64.wrap ((B + 1) * 86400) = (B + 1) * 86400 := wr (by omega) (by omega)
   have hI' : (B + 1) * 86400 < en → ∀ x, inT x → fr ≤ x → x < (B + 1) * 86400 → pr x ≠ pr ((B + 1) * 86400) := fun q x hx h1 h2 e => by
    have hT' : inT ((B + 1) * 86400) := by unfold inT at hS ⊢; omega
    have hy : inT (B * 86400) := by unfold inT; omega
    by_cases cx : x ≤ B * 86400
    ·have e1 := hP.mono x _ hx hy cx
     have e2 := hP.mono _ _ hy hT' (by omega)
     have e3 := (hp _ hy).2 ⟨by omega, by omega⟩
     have := (hp _ hT').1 (by omega)
     omega
    ·have e3 := (hp x hx).2 ⟨by omega, by omega⟩
     have := (hp _ hT').1 (by omega)
     omega
   have ih' := ih ((B + 1) * 86400) (by omega) (by omega) hI'
   have hsp := memC_split (picP r.2.1 r.2.2.2.2.2.2.2.2.2.2.2.2.2.2.1 s0 F pr h m c) fr en (a := t) (b := (B + 1) * 86400) (c := if (B + 1) * 86400 ≤ en then en else (B + 1) * 86400) (by omega) (by split <;> omega)
   have hlast : memC (picP r.2.1 r.2.2.2.2.2.2.2.2.2.2.2.2.2.2.1 s0 F pr h m c) fr en t (if (B + 1) * 86400 ≤ en then en else (B + 1) * 86400) = memC (picP r.2.1 r.2.2.2.2.2.2.2.2.2.2.2.2.2.2.1 s0 F pr h m c) fr en t en := memC_ext _ fr en fun x q1 q2 => by
    split
    ·exact Iff.rfl
    ·exact ⟨fun q => ⟨q.1, q.2.1, by omega⟩, fun q => ⟨q.1, q.2.1, by omega⟩⟩
   have hnext : memC (picP r.2.1 r.2.2.2.2.2.2.2.2.2.2.2.2.2.2.1 s0 F pr h m c) fr en ((B + 1) * 86400) (if (B + 1) * 86400 ≤ en then en else (B + 1) * 86400) = memC (picP r.2.1 r.2.2.2.2.2.2.2.2.2.2.2.2.2.2.1 s0 F pr h m c) fr en ((B + 1) * 86400) en := memC_ext _ fr en fun x q1 q2 => by
    split
    ·exact Iff.rfl
    ·exact ⟨fun q => ⟨q.1, q.2.1, by omega⟩, fun q => ⟨q.1, q.2.1, by omega⟩⟩
   rw [hlast, hnext] at hsp
   rw [member_Plan_walkDays_1.l1_eq, dp cT, cond_true, g1]
   simp only [Option.bind_some]
   rw [in_val hP t htT]
   simp only [Option.bind_some]
   by_cases cin : inP r.2.1 s0 pr t
   ·obtain ⟨s1, b1, k1, k2, k3⟩ := perB hP hfr hen (K := K) t A B htT (by omega) (by omega) ⟨g2.1, g2.2.1⟩ hp cin s hs
    have e : memC (picP r.2.1 r.2.2.2.2.2.2.2.2.2.2.2.2.2.2.1 s0 F pr h m c) fr en (A * 86400) ((B + 1) * 86400) = memC (picP r.2.1 r.2.2.2.2.2.2.2.2.2.2.2.2.2.2.1 s0 F pr h m c) fr en t ((B + 1) * 86400) := memC_ext _ fr en fun x q1 q2 => by
     constructor
     ·rintro ⟨q, q3, q4⟩
      refine ⟨q, ?_, q4⟩
      refine Classical.byContradiction fun z => ?_
      exact hI cT x q.1.1 q1 (by omega) ((hp x q.1.1).2 ⟨by omega, by omega⟩)
     ·rintro ⟨q, q3, q4⟩
      exact ⟨q, by omega, q4⟩
    rw [e] at k1
    rw [dp cin, cond_true, k3]
    simp only [Option.bind_some]
    rw [member_Plan_walkDays_1.l2_eq]
    cases b1 with
    | false => exact ⟨s1, false, runB_stop hsp k1, rfl⟩
    | true =>
     obtain ⟨s', b, h1, h2⟩ := ih' s1 (k2 rfl)
     refine ⟨s', b, runB_app hsp k1 h1, ?_⟩
     rw [Bool.not_true, cond_false, hw1, hw2]
     exact h2
   ·have e : memC (picP r.2.1 r.2.2.2.2.2.2.2.2.2.2.2.2.2.2.1 s0 F pr h m c) fr en t ((B + 1) * 86400) = [] := memC_none _ fr en fun x _ _ q3 q4 q => by
     have q5 := q.1.2.2.1
     unfold inP at cin q5
     rw [(hp x q.1.1).2 ⟨by omega, by omega⟩] at q5
     exact cin q5
    rw [e, List.nil_append] at hsp
    obtain ⟨s', b, h1, h2⟩ := ih' s hs
    refine ⟨s', b, by rw [← hsp]; exact h1, ?_⟩
    rw [dn cin, cond_false, member_Plan_walkDays_1.l2_eq, cond_false, hw1, hw2]
    exact h2
  ·exact hstop t cT s hs
theorem daysB (hf : r.1 ≤ 4) (hs0 : s0 ≤ fr) (hen2 : en ≤ 253402300800) (s : Int × Bool) (hs : invB K s) :
  ∃ s' b, run (yB K) s (memL (picP r.2.1 r.2.2.2.2.2.2.2.2.2.2.2.2.2.2.1 s0 F pr h m c) fr en) = (s', b) ∧ member_Plan_walkDays_1.f P fr en ((fr, ()), (en, ()), (clB K s, ()), ()) = some (((fr, ()), (en, ()), (clB K s', ()), ()), ()) := by
 obtain ⟨s', b, h1, h2⟩ := daysB_l1 hP hfr hen (K := K) hf hs0 hen2 _ fr (Nat.le_refl _) (Int.le_refl _) (fun _ x _ q1 q2 => by omega) s hs
 rw [memC_full] at h1
 refine ⟨s', b, h1, ?_⟩
 rw [member_Plan_walkDays_1.f_eq]
 exact h2
end
section
variable {K fr en : Int} {P : PlT}
theorem minlB_l2a {c : List Int} (hc : okT c 59) (at_ t : Int) (ht : -63000000000 ≤ t ∧ t ≤ 300000000000) (m : List Int) (ml i : Int) (s : Int × Bool) : ∀ (n j : Nat), c.length - j = n → j ≤ c.length → ∀ acc : List Int, acc.length ≤ j →
  member_Plan_minutesOf_1.l2a at_ t m ml i c (c.length : Int) (j : Int) fr en K s.1 s.2 P acc = (member_Plan_Pick.f P (acc ++ (c.drop j).map fun x => t + x)).bind fun q => member_Plan_minutesOf_1.l3 at_ q.1 m ml i fr en K s.1 s.2 P := by
 have hlim : limit = 17179869184 := rfl
 have lc := hc.2.2
 intro n
 induction n with
 | zero =>
  intro j hn hj acc ha
  have e : j = c.length := by omega
  subst e
  rw [member_Plan_minutesOf_1.l2a_eq, dn (show ¬ (c.length : Int) < (c.length : Int) by omega), cond_false, List.drop_length, List.map_nil, List.append_nil]
 | succ n ih =>
  intro j hn hj acc ha
  have hlt : j < c.length := by omega
  have hx := hc.2.1 _ (get_mem hlt)
  have ih' := ih (j + 1) (by omega) (by omega) (acc ++ [t + c.getD j 0]) (by rw [len_snoc]; omega)
  rw [Int.natCast_add, Int.natCast_one] at ih'
  rw [member_Plan_minutesOf_1.l2a_eq, Int.toNat_natCast, drop_getD' 0 hlt]
  generalize c.getD j 0 = x at hx ih' ⊢
  simp (disch := omega) only [ss, cond_true, cond_false, Option.bind_some, List.length_singleton, hlim]
  rw [ih', List.append_assoc]
  rfl
theorem minlB {c : List Int} (hc : okT c 59) (at_ t : Int) (ht : -63000000000 ≤ t ∧ t ≤ 300000000000) (m : List Int) (ml i : Int) (s : Int × Bool) :
  member_Plan_minutesOf_1.l2 at_ t m ml i c (c.length : Int) 0 fr en K s.1 s.2 P = (member_Plan_Pick.f P (minL t c)).bind fun q => member_Plan_minutesOf_1.l3 at_ q.1 m ml i fr en K s.1 s.2 P := by
 have hlim : limit = 17179869184 := rfl
 have lc := hc.2.2
 rw [member_Plan_minutesOf_1.l2_eq]
 unfold minL
 cases c with
 | nil => rfl
 | cons x c =>
  have hx := hc.2.1 x (List.mem_cons_self ..)
  have h := minlB_l2a (K := K) (fr := fr) (en := en) (P := P) hc at_ t ht m ml i s c.length 1 (by rw [List.length_cons]; omega) (by rw [List.length_cons]; omega) [t + x] (by simp)
  have hlen : ((x :: c).length : Int) > 0 := by rw [List.length_cons]; omega
  have hw : IntKind.i64.wrap (t + x) = t + x := wr (by omega) (by omega)
  rw [dp (show (0 : Int) < ((x :: c).length : Int) by omega), cond_true, dp (show (0 : Int) ≤ 0 by omega), cond_true, cond_true, tn_0, List.getD_cons_zero, hw]
  rw [dp (show ([] : List Int).length + [t + x].length ≤ limit by rw [hlim]; simp), cond_true]
  exact h
theorem hourlB_l3 {c : List Int} (hc : okT c 59) (at_ t b : Int) (ht : -63000000000 ≤ t ∧ t ≤ 300000000000) (hb : 0 ≤ b ∧ b ≤ 59) (h : List Int) (hl i : Int) (m : List Int) (ml j : Int) (s : Int × Bool) (N : Nat) (hN : N ≤ 3600) : ∀ (n k : Nat), c.length - k = n → k ≤ c.length → ∀ acc : List Int, acc.length ≤ N + k →
  member_Plan_hoursOf_1.l3 at_ t b h hl i m ml j c (c.length : Int) (k : Int) fr en K s.1 s.2 P acc = member_Plan_hoursOf_1.l2 at_ t h hl i m ml (IntKind.i64.wrap (j + 1)) fr en K s.1 s.2 P (acc ++ (c.drop k).map fun x => t + 60 * b + x) := by
 have hlim : limit = 17179869184 := rfl
 have lc := hc.2.2
 intro n
 induction n with
 | zero =>
  intro k hn hk acc ha
  have e : k = c.length := by omega
  subst e
  rw [member_Plan_hoursOf_1.l3_eq, dn (show ¬ (c.length : Int) < (c.length : Int) by omega), cond_false, List.drop_length, List.map_nil, List.append_nil]
 | succ n ih =>
  intro k hn hk acc ha
  have hlt : k < c.length := by omega
  have hx := hc.2.1 _ (get_mem hlt)
  have ih' := ih (k + 1) (by omega) (by omega) (acc ++ [t + 60 * b + c.getD k 0]) (by rw [len_snoc]; omega)
  rw [Int.natCast_add, Int.natCast_one] at ih'
  rw [member_Plan_hoursOf_1.l3_eq, Int.toNat_natCast, drop_getD' 0 hlt]
  generalize c.getD k 0 = x at hx ih' ⊢
  simp (disch := omega) only [ss, cond_true, cond_false, Option.bind_some, List.length_singleton, hlim]
  rw [ih', List.append_assoc]
  rfl
theorem hourlB_l2 {m c : List Int} (hP : P.2.2.2.2.2.1 = c) (om : okT m 59) (hc : okT c 59) (at_ t : Int) (ht : -63000000000 ≤ t ∧ t ≤ 300000000000) (h : List Int) (hl i : Int) (s : Int × Bool) : ∀ (n j : Nat), m.length - j = n → j ≤ m.length → ∀ acc : List Int, acc.length ≤ 60 * j →
  member_Plan_hoursOf_1.l2 at_ t h hl i m (m.length : Int) (j : Int) fr en K s.1 s.2 P acc = member_Plan_hoursOf_1.l2 at_ t h hl i m (m.length : Int) (m.length : Int) fr en K s.1 s.2 P (acc ++ (m.drop j).flatMap fun b => minL (t + 60 * b) c) := by
 have lc := hc.2.2
 have lm := om.2.2
 intro n
 induction n with
 | zero =>
  intro j hn hj acc ha
  have e : j = m.length := by omega
  subst e
  rw [List.drop_length, List.flatMap_nil, List.append_nil]
 | succ n ih =>
  intro j hn hj acc ha
  have hlt : j < m.length := by omega
  have hx := om.2.1 _ (get_mem hlt)
  have hw : IntKind.i64.wrap ((j : Int) + 1) = ((j + 1 : Nat) : Int) := wr_succ (by omega)
  rw [member_Plan_hoursOf_1.l2_eq, Int.toNat_natCast, drop_getD' 0 hlt, List.flatMap_cons, hP]
  generalize m.getD j 0 = b at hx ⊢
  have h3 := hourlB_l3 (K := K) (fr := fr) (en := en) (P := P) hc at_ t b ht hx h hl i m (m.length : Int) (j : Int) s (60 * j) (by omega) c.length 0 (by omega) (Nat.zero_le _) acc (by omega)
  rw [Int.natCast_zero, List.drop_zero, hw] at h3
  have ih' := ih (j + 1) (by omega) (by omega) (acc ++ minL (t + 60 * b) c) (by unfold minL; rw [List.length_append, List.length_map]; omega)
  rw [dp (show (j : Int) < (m.length : Int) by omega), dp (show (0 : Int) ≤ (j : Int) by omega), cond_true, cond_true, cond_true, h3]
  rw [List.append_assoc] at ih'
  exact ih'
end
section
variable {P : PlT} {r : Rl} {s0 : Int} {F : Int → Bool} {pr : Int → Int} {h m c : List Int} (hP : PlanOK P r s0 F pr h m c) {K fr en : Int} (hfr : -63000000000 ≤ fr ∧ fr ≤ 300000000000) (hen : -63000000000 ≤ en ∧ en ≤ 300000000000)
include hP
theorem minsB_l1 (d a : Int) (hd : -719162 ≤ d ∧ d ≤ 2932896) (ha : a ∈ h) (hF : F d = true) (hf : r.1 = 6 ∨ r.1 = 7) : ∀ (n i : Nat), m.length - i = n → i ≤ m.length → ∀ s : Int × Bool, invB K s →
  ∃ s' b, run (yB K) s (memC (fun x => picP r.2.1 r.2.2.2.2.2.2.2.2.2.2.2.2.2.2.1 s0 F pr h m c x ∧ (x - (d * 86400 + 3600 * a)) / 60 ∈ m.drop i) fr en (d * 86400 + 3600 * a) (d * 86400 + 3600 * a + 3600)) = (s', b) ∧ (b = true → invB K s') ∧
   member_Plan_minutesOf_1.l1 (d * 86400 + 3600 * a) m (m.length : Int) (i : Int) fr en K s.1 s.2 P = some (b, ((fr, ()), (en, ()), (clB K s', ()), ()), ()) := by
 have lm := hP.om.2.2
 have lc := hP.oc.2.2
 have ha0 := hP.oh.2.1 a ha
 intro n
 induction n with
 | zero =>
  intro i hn hi s hs
  have e : i = m.length := by omega
  subst e
  refine ⟨s, true, by rw [memC_none _ fr en (fun x _ _ _ _ q => by rw [List.drop_length] at q; exact absurd q.2 (by simp))]; rfl, fun _ => hs, ?_⟩
  rw [member_Plan_minutesOf_1.l1_eq]
  simp (disch := omega) only [ss, cond_true, cond_false, Option.bind_some]
 | succ n ih =>
  intro i hn hi s hs
  have hlt : i < m.length := by omega
  have ih' := ih (i + 1) (by omega) (by omega)
  rw [Int.natCast_add, Int.natCast_one] at ih'
  have hbm := get_mem hlt
  have hb0 := hP.om.2.1 _ hbm
  have hrd : Rise (m.drop i) := List.Pairwise.sublist (List.drop_sublist i m) hP.om.1
  rw [drop_getD' 0 hlt] at hrd ⊢
  have hgb : m.getD (i : Int).toNat 0 = m.getD i 0 := by rw [Int.toNat_natCast]
  rw [member_Plan_minutesOf_1.l1_eq, hgb]
  generalize m.getD i 0 = b at hbm hb0 hrd ⊢
  have hsp := memC_head (picP r.2.1 r.2.2.2.2.2.2.2.2.2.2.2.2.2.2.1 s0 F pr h m c) fr en (a := b) (l := m.drop (i + 1)) (lo := d * 86400 + 3600 * a) (hi := d * 86400 + 3600 * a + 3600) (a1 := d * 86400 + 3600 * a + 60 * b) (a2 := d * 86400 + 3600 * a + 60 * b + 60)
   (fun x => (x - (d * 86400 + 3600 * a)) / 60) hrd (fun x y q => by omega) (fun x _ => by constructor <;> intro q <;> omega)
  have w1 : IntKind.i64.wrap (d * 86400 + 3600 * a + IntKind.i64.wrap ((60 : Int) * b)) = d * 86400 + 3600 * a + 60 * b := by rw [wr (x := (60 : Int) * b) (by omega) (by omega), wr (by omega) (by omega)]
  have w2 : IntKind.i64.wrap ((i : Int) + 1) = (i : Int) + 1 := wr (by omega) (by omega)
  have htT : inT (d * 86400 + 3600 * a + 60 * b) := by unfold inT; omega
  have fin : ∀ L : List Int, L.length ≤ 1000000 → L.filter (inW fr en) = memC (picP r.2.1 r.2.2.2.2.2.2.2.2.2.2.2.2.2.2.1 s0 F pr h m c) fr en (d * 86400 + 3600 * a + 60 * b) (d * 86400 + 3600 * a + 60 * b + 60) →
    ∃ s' b', run (yB K) s (memC (fun x => picP r.2.1 r.2.2.2.2.2.2.2.2.2.2.2.2.2.2.1 s0 F pr h m c x ∧ (x - (d * 86400 + 3600 * a)) / 60 ∈ b :: m.drop (i + 1)) fr en (d * 86400 + 3600 * a) (d * 86400 + 3600 * a + 3600)) = (s', b') ∧ (b' = true → invB K s') ∧ member_Plan_minutesOf_1.l3 (d * 86400 + 3600 * a) L m (m.length : Int) (i : Int) fr en K s.1 s.2 P = some (b', ((fr, ()), (en, ()), (clB K s', ()), ()), ()) := by
   intro L hL he
   obtain ⟨s1, b1, g1, g2, g3⟩ := tellB (K := K) (fr := fr) (en := en) hL s hs
   rw [he] at g1
   rw [member_Plan_minutesOf_1.l3_eq, g3]
   simp only [Option.bind_some]
   cases b1 with
   | false => exact ⟨s1, false, runB_stop hsp g1, (fun q => by cases q), rfl⟩
   | true =>
    obtain ⟨s', b', h1, h2, h3⟩ := ih' s1 (g2 rfl)
    refine ⟨s', b', runB_app hsp g1 h1, h2, ?_⟩
    rw [Bool.not_true, cond_false, w2]
    exact h3
  rw [dp (show (i : Int) < (m.length : Int) by omega), dp (show (0 : Int) ≤ (i : Int) by omega), cond_true, cond_true, cond_true, w1, hP.er]
  by_cases c7 : r.1 = 7
  ·obtain ⟨L, k1, k2, k3⟩ := secs_val hP d a b hd ha hbm hF c7
   rw [dp c7, cond_true, k3]
   simp only [Option.bind_some]
   exact fin L k1 (memC_of _ fr en k2.1 k2.2)
  ·have c6 : r.1 = 6 := by omega
   obtain ⟨k1, k2, k3⟩ := mins_val hP d a b hd ha hbm hF c6
   rw [dn c7, cond_false, in_val hP _ htT]
   simp only [Option.bind_some]
   by_cases cin : inP r.2.1 s0 pr (d * 86400 + 3600 * a + 60 * b)
   ·rw [dp cin, cond_true, hP.ec, minlB (K := K) hP.oc _ _ (by omega) m _ _ s, pick_val hP (rise_minL hP _) (minL_len hP _)]
    simp only [Option.bind_some]
    exact fin _ k1 (memC_of _ fr en k2 (k3 cin))
   ·have e : memC (picP r.2.1 r.2.2.2.2.2.2.2.2.2.2.2.2.2.2.1 s0 F pr h m c) fr en (d * 86400 + 3600 * a + 60 * b) (d * 86400 + 3600 * a + 60 * b + 60) = [] := memC_none _ fr en fun x _ _ q1 q2 q => by
     have q5 := q.1.2.2.1
     unfold inP at cin q5
     rw [hP.p6 c6 x q.1.1, show x / 60 = (d * 86400 + 3600 * a + 60 * b) / 60 by omega, ← hP.p6 c6 _ htT] at q5
     exact cin q5
    rw [e, List.nil_append] at hsp
    obtain ⟨s1, b1, g1, g2, g3⟩ := tellB (K := K) (fr := fr) (en := en) (L := []) (Nat.zero_le _) s hs
    have g1 : (s, true) = (s1, b1) := g1
    obtain ⟨rfl, rfl⟩ := Prod.mk.inj g1
    obtain ⟨s', b', h1, h2, h3⟩ := ih' s hs
    refine ⟨s', b', by rw [← hsp]; exact h1, h2, ?_⟩
    rw [dn cin, cond_false, member_Plan_minutesOf_1.l3a_eq, g3]
    simp only [Option.bind_some]
    rw [Bool.not_true, cond_false, w2]
    exact h3
theorem minsB (d a : Int) (hd : -719162 ≤ d ∧ d ≤ 2932896) (ha : a ∈ h) (hF : F d = true) (hf : r.1 = 6 ∨ r.1 = 7) (s : Int × Bool) (hs : invB K s) :
  ∃ s' b, run (yB K) s (memC (picP r.2.1 r.2.2.2.2.2.2.2.2.2.2.2.2.2.2.1 s0 F pr h m c) fr en (d * 86400 + 3600 * a) (d * 86400 + 3600 * a + 3600)) = (s', b) ∧ (b = true → invB K s') ∧
   member_Plan_minutesOf_1.f P (d * 86400 + 3600 * a) ((fr, ()), (en, ()), (clB K s, ()), ()) = some (b, ((fr, ()), (en, ()), (clB K s', ()), ()), ()) := by
 obtain ⟨s', b, h1, h2, h3⟩ := minsB_l1 hP (K := K) (fr := fr) (en := en) d a hd ha hF hf m.length 0 (by omega) (Nat.zero_le _) s hs
 have e : memC (picP r.2.1 r.2.2.2.2.2.2.2.2.2.2.2.2.2.2.1 s0 F pr h m c) fr en (d * 86400 + 3600 * a) (d * 86400 + 3600 * a + 3600) = memC (fun x => picP r.2.1 r.2.2.2.2.2.2.2.2.2.2.2.2.2.2.1 s0 F pr h m c x ∧ (x - (d * 86400 + 3600 * a)) / 60 ∈ m.drop 0) fr en (d * 86400 + 3600 * a) (d * 86400 + 3600 * a + 3600) := memC_ext _ fr en fun x _ _ => by
  rw [List.drop_zero]
  constructor
  ·rintro ⟨q, q1, q2⟩
   exact ⟨⟨q, ((raw_hour hP d a x hd ha hF q1 q2).1 q.1).1⟩, q1, q2⟩
  ·rintro ⟨⟨q, _⟩, q1⟩
   exact ⟨q, q1⟩
 refine ⟨s', b, by rw [e]; exact h1, h2, ?_⟩
 rw [Int.natCast_zero] at h3
 rw [member_Plan_minutesOf_1.f_eq, hP.em]
 exact h3
theorem hrsB_l1 (d : Int) (hd : -719162 ≤ d ∧ d ≤ 2932896) (hF : F d = true) (hf : 4 < r.1) : ∀ (n i : Nat), h.length - i = n → i ≤ h.length → ∀ s : Int × Bool, invB K s →
  ∃ s' b, run (yB K) s (memC (fun x => picP r.2.1 r.2.2.2.2.2.2.2.2.2.2.2.2.2.2.1 s0 F pr h m c x ∧ (x - d * 86400) / 3600 ∈ h.drop i) fr en (d * 86400) (d * 86400 + 86400)) = (s', b) ∧ (b = true → invB K s') ∧
   member_Plan_hoursOf_1.l1 (d * 86400) h (h.length : Int) (i : Int) fr en K s.1 s.2 P = some (b, ((fr, ()), (en, ()), (clB K s', ()), ()), ()) := by
 have lh := hP.oh.2.2
 have hfr7 := hP.fr
 intro n
 induction n with
 | zero =>
  intro i hn hi s hs
  have e : i = h.length := by omega
  subst e
  refine ⟨s, true, by rw [memC_none _ fr en (fun x _ _ _ _ q => by rw [List.drop_length] at q; exact absurd q.2 (by simp))]; rfl, fun _ => hs, ?_⟩
  rw [member_Plan_hoursOf_1.l1_eq]
  simp (disch := omega) only [ss, cond_true, cond_false, Option.bind_some]
 | succ n ih =>
  intro i hn hi s hs
  have hlt : i < h.length := by omega
  have ih' := ih (i + 1) (by omega) (by omega)
  rw [Int.natCast_add, Int.natCast_one] at ih'
  have hbm := get_mem hlt
  have hb0 := hP.oh.2.1 _ hbm
  have hrd : Rise (h.drop i) := List.Pairwise.sublist (List.drop_sublist i h) hP.oh.1
  rw [drop_getD' 0 hlt] at hrd ⊢
  have hgb : h.getD (i : Int).toNat 0 = h.getD i 0 := by rw [Int.toNat_natCast]
  rw [member_Plan_hoursOf_1.l1_eq, hgb]
  generalize h.getD i 0 = a at hbm hb0 hrd ⊢
  have hsp := memC_head (picP r.2.1 r.2.2.2.2.2.2.2.2.2.2.2.2.2.2.1 s0 F pr h m c) fr en (a := a) (l := h.drop (i + 1)) (lo := d * 86400) (hi := d * 86400 + 86400) (a1 := d * 86400 + 3600 * a) (a2 := d * 86400 + 3600 * a + 3600)
   (fun x => (x - d * 86400) / 3600) hrd (fun x y q => by omega) (fun x _ => by constructor <;> intro q <;> omega)
  have w1 : IntKind.i64.wrap (d * 86400 + IntKind.i64.wrap ((3600 : Int) * a)) = d * 86400 + 3600 * a := by rw [wr (x := (3600 : Int) * a) (by omega) (by omega), wr (by omega) (by omega)]
  have w2 : IntKind.i64.wrap ((i : Int) + 1) = (i : Int) + 1 := wr (by omega) (by omega)
  have htT : inT (d * 86400 + 3600 * a) := by unfold inT; omega
  rw [dp (show (i : Int) < (h.length : Int) by omega), dp (show (0 : Int) ≤ (i : Int) by omega), cond_true, cond_true, cond_true, w1, w2, hP.er]
  by_cases c5 : r.1 > 5
  ·obtain ⟨s1, b1, g1, g2, g3⟩ := minsB hP (K := K) (fr := fr) (en := en) d a hd hbm hF (by omega) s hs
   rw [dp c5, cond_true, g3]
   simp only [Option.bind_some]
   cases b1 with
   | false => exact ⟨s1, false, runB_stop hsp g1, (fun q => by cases q), rfl⟩
   | true =>
    obtain ⟨s', b', h1, h2, h3⟩ := ih' s1 (g2 rfl)
    refine ⟨s', b', runB_app hsp g1 h1, h2, ?_⟩
    rw [Bool.not_true, cond_false]
    exact h3
  ·have c5' : r.1 = 5 := by omega
   obtain ⟨k1, k2, k3⟩ := hrs_val hP d a hd hbm hF c5'
   rw [dn c5, cond_false, in_val hP _ htT]
   simp only [Option.bind_some]
   by_cases cin : inP r.2.1 s0 pr (d * 86400 + 3600 * a)
   ·obtain ⟨s1, b1, g1, g2, g3⟩ := tellB (K := K) (fr := fr) (en := en) k1 s hs
    rw [memC_of _ fr en k2 (k3 cin)] at g1
    have hl2 := hourlB_l2 (K := K) (fr := fr) (en := en) (P := P) hP.ec hP.om hP.oc (d * 86400) (d * 86400 + 3600 * a) (by omega) h (h.length : Int) (i : Int) s m.length 0 (by omega) (Nat.zero_le _) [] (Nat.zero_le _)
    rw [Int.natCast_zero, List.drop_zero, List.nil_append] at hl2
    have hpk := pick_val hP (rise_hourL hP.om.1 hP.oc.1 hP.oc.2.1 (d * 86400 + 3600 * a)) (Nat.le_trans (hourL_len hP _) (by decide))
    unfold hourL at hpk g3 k1 k2 k3
    rw [dp cin, Bool.not_true, cond_false, hP.em, hl2, member_Plan_hoursOf_1.l2_eq, dn (show ¬ (m.length : Int) < (m.length : Int) by omega), cond_false, hpk]
    simp only [Option.bind_some]
    rw [g3]
    simp only [Option.bind_some]
    cases b1 with
    | false => exact ⟨s1, false, runB_stop hsp g1, (fun q => by cases q), rfl⟩
    | true =>
     obtain ⟨s', b', h1, h2, h3⟩ := ih' s1 (g2 rfl)
     refine ⟨s', b', runB_app hsp g1 h1, h2, ?_⟩
     rw [Bool.not_true, cond_false, w2]
     exact h3
   ·have e : memC (picP r.2.1 r.2.2.2.2.2.2.2.2.2.2.2.2.2.2.1 s0 F pr h m c) fr en (d * 86400 + 3600 * a) (d * 86400 + 3600 * a + 3600) = [] := memC_none _ fr en fun x _ _ q1 q2 q => by
     have q5 := q.1.2.2.1
     unfold inP at cin q5
     rw [hP.p5 c5' x q.1.1, show x / 3600 = (d * 86400 + 3600 * a) / 3600 by omega, ← hP.p5 c5' _ htT] at q5
     exact cin q5
    rw [e, List.nil_append] at hsp
    obtain ⟨s', b', h1, h2, h3⟩ := ih' s hs
    refine ⟨s', b', by rw [← hsp]; exact h1, h2, ?_⟩
    rw [dn cin, Bool.not_false, cond_true]
    exact h3
theorem hrsB (d : Int) (hd : -719162 ≤ d ∧ d ≤ 2932896) (hF : F d = true) (hf : 4 < r.1) (s : Int × Bool) (hs : invB K s) :
  ∃ s' b, run (yB K) s (memC (picP r.2.1 r.2.2.2.2.2.2.2.2.2.2.2.2.2.2.1 s0 F pr h m c) fr en (d * 86400) ((d + 1) * 86400)) = (s', b) ∧ (b = true → invB K s') ∧
   member_Plan_hoursOf_1.f P (d * 86400) ((fr, ()), (en, ()), (clB K s, ()), ()) = some (b, ((fr, ()), (en, ()), (clB K s', ()), ()), ()) := by
 obtain ⟨s', b, h1, h2, h3⟩ := hrsB_l1 hP (K := K) (fr := fr) (en := en) d hd hF hf h.length 0 (by omega) (Nat.zero_le _) s hs
 have e : memC (picP r.2.1 r.2.2.2.2.2.2.2.2.2.2.2.2.2.2.1 s0 F pr h m c) fr en (d * 86400) ((d + 1) * 86400) = memC (fun x => picP r.2.1 r.2.2.2.2.2.2.2.2.2.2.2.2.2.2.1 s0 F pr h m c x ∧ (x - d * 86400) / 3600 ∈ h.drop 0) fr en (d * 86400) (d * 86400 + 86400) := memC_ext _ fr en fun x _ _ => by
  rw [List.drop_zero]
  constructor
  ·rintro ⟨q, q1, q2⟩
   have := ((mem_tod hP.om.2.1 hP.oc.2.1 _).1 q.1.2.1).1
   rw [show x % 86400 / 3600 = (x - d * 86400) / 3600 by omega] at this
   exact ⟨⟨q, this⟩, q1, by omega⟩
  ·rintro ⟨⟨q, _⟩, q1, q2⟩
   exact ⟨q, q1, by omega⟩
 refine ⟨s', b, by rw [e]; exact h1, h2, ?_⟩
 rw [Int.natCast_zero] at h3
 rw [member_Plan_hoursOf_1.f_eq, hP.eh]
 exact h3
theorem timsB_l1 (hf : 4 < r.1) (D : Int) (hD : D ≤ 2932897) : ∀ (n : Nat) (d : Int), (D + 1 - d).toNat = n → -800000 ≤ d → ∀ s : Int × Bool, invB K s →
  ∃ s' b, run (yB K) s (memC (picP r.2.1 r.2.2.2.2.2.2.2.2.2.2.2.2.2.2.1 s0 F pr h m c) fr en (d * 86400) ((D + 1) * 86400)) = (s', b) ∧ member_Plan_walkTimes_1.l1 D d fr en K s.1 s.2 P = some (((fr, ()), (en, ()), (clB K s', ()), ()), ()) := by
 intro n
 induction n with
 | zero =>
  intro d hn hd s hs
  refine ⟨s, true, by rw [memC_none _ fr en (fun x _ _ h1 h2 => by omega)]; rfl, ?_⟩
  rw [member_Plan_walkTimes_1.l1_eq, dn (show ¬ d ≤ D by omega), cond_false]
 | succ n ih =>
  intro d hn hd s hs
  have hdD : d ≤ D := by omega
  have hw : IntKind.i64.wrap (d + 1) = d + 1 := wr (by omega) (by omega)
  have hw2 : IntKind.i64.wrap (d * 86400) = d * 86400 := wr (by omega) (by omega)
  have hsp := memC_split (picP r.2.1 r.2.2.2.2.2.2.2.2.2.2.2.2.2.2.1 s0 F pr h m c) fr en (a := d * 86400) (b := (d + 1) * 86400) (c := (D + 1) * 86400) (by omega) (by omega)
  have ih' := ih (d + 1) (by omega) (by omega)
  rw [member_Plan_walkTimes_1.l1_eq, dp hdD, cond_true, member_Plan_Fits.f_eq, hP.fits d]
  simp only [Option.bind_some]
  cases hF : F d with
  | false =>
   rw [memC_none _ fr en (fun x _ _ q1 q2 q => by
    have q := q.1.2.2.2
    rw [show x / 86400 = d by omega, hF] at q
    cases q), List.nil_append] at hsp
   obtain ⟨s', b, h1, h2⟩ := ih' s hs
   refine ⟨s', b, by rw [← hsp]; exact h1, ?_⟩
   rw [cond_false, member_Plan_walkTimes_1.l2_eq, cond_false, hw]
   exact h2
  | true =>
   obtain ⟨s1, b1, g1, g2, g3⟩ := hrsB hP (K := K) (fr := fr) (en := en) d (hP.fin d hF) hF hf s hs
   rw [cond_true, hw2, g3]
   simp only [Option.bind_some]
   rw [member_Plan_walkTimes_1.l2_eq]
   cases b1 with
   | false => exact ⟨s1, false, runB_stop hsp g1, rfl⟩
   | true =>
    obtain ⟨s', b, h1, h2⟩ := ih' s1 (g2 rfl)
    refine ⟨s', b, runB_app hsp g1 h1, ?_⟩
    rw [Bool.not_true, cond_false, hw]
    exact h2
include hfr hen
theorem timsB (hf : 4 < r.1) (hen2 : en ≤ 253402300800) (s : Int × Bool) (hs : invB K s) :
  ∃ s' b, run (yB K) s (memL (picP r.2.1 r.2.2.2.2.2.2.2.2.2.2.2.2.2.2.1 s0 F pr h m c) fr en) = (s', b) ∧ member_Plan_walkTimes_1.f P fr en ((fr, ()), (en, ()), (clB K s, ()), ()) = some (((fr, ()), (en, ()), (clB K s', ()), ()), ()) := by
 have hd1 := (mday_spec fr (by omega) (by omega)).1
 have hd2 := (mday_spec en (by omega) (by omega)).1
 obtain ⟨s', b, h1, h2⟩ := timsB_l1 hP (K := K) (fr := fr) (en := en) hf (en / 86400) (by omega) _ (fr / 86400) rfl (by omega) s hs
 have e : memC (picP r.2.1 r.2.2.2.2.2.2.2.2.2.2.2.2.2.2.1 s0 F pr h m c) fr en fr en = memC (picP r.2.1 r.2.2.2.2.2.2.2.2.2.2.2.2.2.2.1 s0 F pr h m c) fr en (fr / 86400 * 86400) ((en / 86400 + 1) * 86400) := memC_ext _ fr en fun x q1 q2 => ⟨fun q => ⟨q.1, by omega, by omega⟩, fun q => ⟨q.1, q1, q2⟩⟩
 rw [← memC_full, e]
 refine ⟨s', b, h1, ?_⟩
 rw [member_Plan_walkTimes_1.f_eq, hd1, hd2]
 exact h2
omit hfr hen
theorem walkB (hu : r.2.2.2.2.2.1 = true → inT r.2.2.2.1) (f0 e0 : Int) (hf0 : -63000000000 ≤ f0 ∧ f0 ≤ 300000000000) (he0 : -63000000000 ≤ e0 ∧ e0 ≤ 253402300799) (s : Int × Bool) (hs : invB K s) :
  member_Plan_Walk_i1.f P f0 e0 (clB K s) = some (clB K (run (yB K) s (memL (belP r.2.1 r.2.2.2.1 r.2.2.2.2.2.1 r.2.2.2.2.2.2.2.2.2.2.2.2.2.2.1 s0 F pr h m c) f0 e0)).1, ()) := by
 have hS := hP.inS
 unfold inT at hS
 have hgo : ∀ fr en : Int, s0 ≤ fr → -63000000000 ≤ fr ∧ fr ≤ 300000000000 → -63000000000 ≤ en ∧ en ≤ 253402300800 → memL (picP r.2.1 r.2.2.2.2.2.2.2.2.2.2.2.2.2.2.1 s0 F pr h m c) fr en = memL (belP r.2.1 r.2.2.2.1 r.2.2.2.2.2.1 r.2.2.2.2.2.2.2.2.2.2.2.2.2.2.1 s0 F pr h m c) f0 e0 →
   member_Plan_Walk_i1.l1 K s.1 s.2 P fr en = some (clB K (run (yB K) s (memL (belP r.2.1 r.2.2.2.1 r.2.2.2.2.2.1 r.2.2.2.2.2.2.2.2.2.2.2.2.2.2.1 s0 F pr h m c) f0 e0)).1, ()) := by
  intro fr en h1 h2 h3 e
  rw [member_Plan_Walk_i1.l1_eq, hP.er]
  by_cases c5 : r.1 < 5
  ·obtain ⟨s', b, g1, g2⟩ := daysB hP (K := K) h2 (by omega) (by omega) h1 h3.2 s hs
   rw [dp c5, cond_true, g2]
   simp only [Option.bind_some]
   rw [← e, g1]
  ·obtain ⟨s', b, g1, g2⟩ := timsB hP (K := K) h2 (by omega) (by omega) h3.2 s hs
   rw [dn c5, cond_false, g2]
   simp only [Option.bind_some]
   rw [← e, g1]
 rw [member_Plan_Walk_i1.f_eq, hP.er, hP.es, mm_max]
 cases hen : r.2.2.2.2.2.1 with
 | false =>
  rw [hen] at hgo
  rw [cond_false]
  refine hgo _ _ (by omega) (by omega) (by omega) (memL_eq _ (rise_memL _ _ _) fun x => ?_)
  rw [mem_memL, bel_pic]
  constructor
  ·rintro ⟨q, q1, q2⟩
   exact ⟨⟨q, by omega, (fun z => by cases z)⟩, by omega, q2⟩
  ·rintro ⟨⟨q, q1, _⟩, q2, q3⟩
   exact ⟨q, by omega, q3⟩
 | true =>
  have hu := hu hen
  unfold inT at hu
  rw [hen] at hgo
  rw [cond_true, wr (x := r.2.2.2.1 + 1) (by omega) (by omega), mm_min]
  refine hgo _ _ (by omega) (by omega) (by omega) (memL_eq _ (rise_memL _ _ _) fun x => ?_)
  rw [mem_memL, bel_pic]
  constructor
  ·rintro ⟨q, q1, q2⟩
   exact ⟨⟨q, by omega, fun _ => by omega⟩, by omega, by omega⟩
  ·rintro ⟨⟨q, q1, q4⟩, q2, q3⟩
   have := q4 rfl
   exact ⟨q, by omega, by omega⟩
end
end Go.GV.YtdnpbkbklnkjoaaGreatDoor
