/-
Part of the words that RulePrints is proved with: no statement of its own, no conditions.
-/
import Derived.Test.YtkkfgajlnpcpcaaGreatDoorZ13
set_option linter.unusedVariables false
set_option linter.unusedSimpArgs false
namespace Go.GV.YtkkfgajlnpcpcaaGreatDoor
open Go.Proofs
theorem vI2 (a b : List Int) (ha : a.length ≤ 1000000) : vokref_Ints.f a b = some (decide (a = b), ()) := by
 rw [vokref_Ints.f_eq]
 by_cases hl : a.length = b.length
 ·have key : ∀ (k i : Nat), a.length - i = k → i ≤ a.length → vokref_Ints.l1 a b i = some (decide (a.drop i = b.drop i), ()) := by
   intro k
   induction k with
   | zero =>
    intro i hk hia
    have e1 : a.drop i = [] := List.drop_eq_nil_of_le (by omega)
    have e2 : b.drop i = [] := List.drop_eq_nil_of_le (by omega)
    rw [vokref_Ints.l1_eq, e1, e2]
    simp (disch := omega) only [ss, cond_true, cond_false, Option.bind_some]
   | succ k ih =>
    intro i hk hia
    have h1 : i < a.length := by omega
    have h2 : i < b.length := by omega
    have := ih (i + 1) (by omega) (by omega)
    rw [vokref_Ints.l1_eq, drop_getD' 0 h1, drop_getD' 0 h2]
    by_cases c : a.getD i 0 = b.getD i 0
    ·have e : decide (a.getD i 0 :: a.drop (i + 1) = b.getD i 0 :: b.drop (i + 1)) = decide (a.drop (i + 1) = b.drop (i + 1)) := decide_eq_decide.2 ⟨fun h => (List.cons.inj h).2, fun h => by rw [c, h]⟩
     rw [e]
     simp (disch := omega) only [ss, cond_true, cond_false, Option.bind_some]
     exact this
    ·have e : decide (a.getD i 0 :: a.drop (i + 1) = b.getD i 0 :: b.drop (i + 1)) = false := dn fun h => c (List.cons.inj h).1
     rw [e]
     simp (disch := omega) only [ss, cond_true, cond_false, Option.bind_some]
  have := key _ 0 rfl (Nat.zero_le _)
  rw [Int.natCast_zero, List.drop_zero, List.drop_zero] at this
  simp (disch := omega) only [ss, cond_true, cond_false, Option.bind_some, this]
 ·rw [dn (show ¬ a = b from fun h => hl (by rw [h]))]
  simp (disch := omega) only [ss, cond_true, cond_false, Option.bind_some]
theorem vD2 (a b : List Dy) (ha : a.length ≤ 1000000) : vokref_Days.f a b = some (decide (a = b), ()) := by
 rw [vokref_Days.f_eq]
 by_cases hl : a.length = b.length
 ·have key : ∀ (k i : Nat), a.length - i = k → i ≤ a.length → vokref_Days.l1 a b i = some (decide (a.drop i = b.drop i), ()) := by
   intro k
   induction k with
   | zero =>
    intro i hk hia
    have e1 : a.drop i = [] := List.drop_eq_nil_of_le (by omega)
    have e2 : b.drop i = [] := List.drop_eq_nil_of_le (by omega)
    rw [vokref_Days.l1_eq, e1, e2]
    simp (disch := omega) only [ss, cond_true, cond_false, Option.bind_some]
   | succ k ih =>
    intro i hk hia
    have h1 : i < a.length := by omega
    have h2 : i < b.length := by omega
    have := ih (i + 1) (by omega) (by omega)
    rw [vokref_Days.l1_eq, drop_getD' ((0, 0, ()) : Dy) h1, drop_getD' ((0, 0, ()) : Dy) h2]
    generalize hx : a.getD i ((0, 0, ()) : Dy) = x
    generalize hy : b.getD i ((0, 0, ()) : Dy) = y
    have hx' : a.getD i ((0, 0, ()) : Int × Int × Unit) = x := hx
    have hy' : b.getD i ((0, 0, ()) : Int × Int × Unit) = y := hy
    obtain ⟨x1, x2, ⟨⟩⟩ := x
    obtain ⟨y1, y2, ⟨⟩⟩ := y
    by_cases c : x1 = y1 ∧ x2 = y2
    ·obtain ⟨rfl, rfl⟩ := c
     have e : decide ((x1, x2, ()) :: a.drop (i + 1) = (x1, x2, ()) :: b.drop (i + 1)) = decide (a.drop (i + 1) = b.drop (i + 1)) := decide_eq_decide.2 ⟨fun h => (List.cons.inj h).2, fun h => by rw [h]⟩
     rw [e]
     simp (disch := omega) only [ss, cond_true, cond_false, Option.bind_some, hx', hy', vokref_Days.l2_eq]
     exact this
    ·have e : decide ((x1, x2, ()) :: a.drop (i + 1) = (y1, y2, ()) :: b.drop (i + 1)) = false := dn fun h => c (by have := (List.cons.inj h).1; cases this; exact ⟨rfl, rfl⟩)
     rw [e]
     by_cases c1 : x1 = y1
     ·have c2 : ¬ x2 = y2 := fun h => c ⟨c1, h⟩
      simp (disch := omega) only [ss, cond_true, cond_false, Option.bind_some, hx', hy', vokref_Days.l2_eq]
     ·simp (disch := omega) only [ss, cond_true, cond_false, Option.bind_some, hx', hy', vokref_Days.l2_eq]
  have := key _ 0 rfl (Nat.zero_le _)
  rw [Int.natCast_zero, List.drop_zero, List.drop_zero] at this
  simp (disch := omega) only [ss, cond_true, cond_false, Option.bind_some, this]
 ·rw [dn (show ¬ a = b from fun h => hl (by rw [h]))]
  simp (disch := omega) only [ss, cond_true, cond_false, Option.bind_some]
theorem rule_tells (r q : Rl) (hr : shortR r) : Tells (vokref_Rule.f r q) (r = q) := by
 unfold shortR short at hr
 obtain ⟨f, iv, ct, un, wk, en, mo, we, yd, md, dy, ho, mi, se, po, ⟨⟩⟩ := r
 obtain ⟨f', iv', ct', un', wk', en', mo', we', yd', md', dy', ho', mi', se', po', ⟨⟩⟩ := q
 dsimp only at hr
 obtain ⟨h1, h2, h3, h4, h5, h6, h7, h8, h9⟩ := hr
 have no : ∀ {p : Prop}, ¬ p → Tells (some (false, ())) p := fun h => ⟨false, rfl, by simp [h]⟩
 rw [vokref_Rule.f_eq, vI2 mo mo' (by omega), vI2 we we' (by omega), vI2 yd yd' (by omega), vI2 md md' (by omega), vD2 dy dy' (by omega), vI2 ho ho' (by omega), vI2 mi mi' (by omega), vI2 se se' (by omega), vI2 po po' (by omega)]
 simp only [Option.bind_some]
 by_cases c0 : f = f'
 rotate_left
 ·simp only [dn c0, cond_true, cond_false]
  exact no fun h => c0 (by cases h; rfl)
 by_cases c1 : iv = iv'
 rotate_left
 ·simp only [dp c0, dn c1, cond_true, cond_false]
  exact no fun h => c1 (by cases h; rfl)
 by_cases c2 : ct = ct'
 rotate_left
 ·simp only [dp c0, dp c1, dn c2, cond_true, cond_false]
  exact no fun h => c2 (by cases h; rfl)
 by_cases c3 : un = un'
 rotate_left
 ·simp only [dp c0, dp c1, dp c2, dn c3, cond_true, cond_false]
  exact no fun h => c3 (by cases h; rfl)
 by_cases c4 : wk = wk'
 rotate_left
 ·simp only [dp c0, dp c1, dp c2, dp c3, dn c4, cond_true, cond_false]
  exact no fun h => c4 (by cases h; rfl)
 by_cases c5 : en = en'
 rotate_left
 ·have e : (en == en') = false := by cases en <;> cases en' <;> first | rfl | exact absurd rfl c5
  simp only [dp c0, dp c1, dp c2, dp c3, dp c4, e, cond_true, cond_false]
  exact no fun h => c5 (by cases h; rfl)
 have e5 : (en == en') = true := by rw [c5, beq_self_eq_true]
 by_cases c6 : mo = mo'
 rotate_left
 ·simp only [dp c0, dp c1, dp c2, dp c3, dp c4, e5, dn c6, cond_true, cond_false]
  exact no fun h => c6 (by cases h; rfl)
 by_cases c7 : we = we'
 rotate_left
 ·simp only [dp c0, dp c1, dp c2, dp c3, dp c4, dp c6, e5, dn c7, cond_true, cond_false]
  exact no fun h => c7 (by cases h; rfl)
 by_cases c8 : yd = yd'
 rotate_left
 ·simp only [dp c0, dp c1, dp c2, dp c3, dp c4, dp c6, dp c7, e5, dn c8, cond_true, cond_false]
  exact no fun h => c8 (by cases h; rfl)
 by_cases c9 : md = md'
 rotate_left
 ·simp only [dp c0, dp c1, dp c2, dp c3, dp c4, dp c6, dp c7, dp c8, e5, dn c9, cond_true, cond_false]
  exact no fun h => c9 (by cases h; rfl)
 by_cases c10 : dy = dy'
 rotate_left
 ·simp only [dp c0, dp c1, dp c2, dp c3, dp c4, dp c6, dp c7, dp c8, dp c9, e5, dn c10, cond_true, cond_false]
  exact no fun h => c10 (by cases h; rfl)
 by_cases c11 : ho = ho'
 rotate_left
 ·simp only [dp c0, dp c1, dp c2, dp c3, dp c4, dp c6, dp c7, dp c8, dp c9, dp c10, e5, dn c11, cond_true, cond_false]
  exact no fun h => c11 (by cases h; rfl)
 by_cases c12 : mi = mi'
 rotate_left
 ·simp only [dp c0, dp c1, dp c2, dp c3, dp c4, dp c6, dp c7, dp c8, dp c9, dp c10, dp c11, e5, dn c12, cond_true, cond_false]
  exact no fun h => c12 (by cases h; rfl)
 by_cases c13 : se = se'
 rotate_left
 ·simp only [dp c0, dp c1, dp c2, dp c3, dp c4, dp c6, dp c7, dp c8, dp c9, dp c10, dp c11, dp c12, e5, dn c13, cond_true, cond_false]
  exact no fun h => c13 (by cases h; rfl)
 by_cases c14 : po = po'
 rotate_left
 ·simp only [dp c0, dp c1, dp c2, dp c3, dp c4, dp c6, dp c7, dp c8, dp c9, dp c10, dp c11, dp c12, dp c13, e5, dn c14, cond_true, cond_false]
  exact no fun h => c14 (by cases h; rfl)
 simp only [dp c0, dp c1, dp c2, dp c3, dp c4, dp c6, dp c7, dp c8, dp c9, dp c10, dp c11, dp c12, dp c13, dp c14, e5, cond_true]
 exact ⟨true, rfl, by simp [c0, c1, c2, c3, c4, c5, c6, c7, c8, c9, c10, c11, c12, c13, c14]⟩
theorem itoa_ne (n : Int) : Lib.itoa n ≠ [] := by
 by_cases hn : n < 0
 ·rw [itoa_neg hn]
  simp
 ·rw [itoa_pos hn]
  exact D_ne _
theorem jn_ne (c : UInt8) : ∀ (l : List (List UInt8)), l ≠ [] → (∀ s ∈ l, s ≠ []) → jn c l ≠ []
 | [], h, _ => absurd rfl h
 | [a], _, h => h a (by simp)
 | a :: b :: l, _, _ => by
  show a ++ c :: jn c (b :: l) ≠ []
  simp
theorem small_take {l : List Int} (h : small l) (i : Nat) : small (l.take i) := fun n hn => h n (List.mem_of_mem_take hn)
theorem vlist_spec (name : List UInt8) (l : List Int) (hn : name.length ≤ 20) (h : l.length ≤ 60) (hb : small l) : vokref4_list.f (mkS name) l = some (mkS (tl (opt (decide ((l.length : Int) > 0)) name (jn 44 (l.map Lib.itoa)))), ()) := by
 have h44 : (⟨#[44]⟩ : ByteArray) = mkS [44] := rfl
 have h59 : (⟨#[59]⟩ : ByteArray) = mkS [59] := rfl
 have h61 : (⟨#[61]⟩ : ByteArray) = mkS [61] := rfl
 have hnil : (⟨#[]⟩ : ByteArray) = mkS [] := rfl
 have hlen := itx_len l h hb
 have key : ∀ (k i : Nat), l.length - i = k → i ≤ l.length → vokref4_list.l1 (mkS name) l (mkS (jn 44 ((l.take i).map Lib.itoa))) i = some (mkS (tl (opt (decide ((l.length : Int) > 0)) name (jn 44 (l.map Lib.itoa)))), ()) := by
  intro k
  induction k with
  | zero =>
   intro i hk hil
   have e : i = l.length := by omega
   subst e
   rw [List.take_length, vokref4_list.l1_eq, beq_S, hnil, dm]
   by_cases c : l = []
   ·subst c
    simp (disch := omega) only [ss, cond_true, cond_false, Option.bind_some, List.length_nil]
    rfl
   ·have hp : (l.length : Int) > 0 := by have := List.length_pos_iff.2 c; omega
    have hj : ¬ jn 44 (l.map Lib.itoa) = [] := jn_ne 44 _ (by simpa using c) fun s hs => by
     obtain ⟨n, _, e⟩ := List.mem_map.1 hs
     rw [← e]
     exact itoa_ne n
    rw [dp hp, dn hj]
    simp (disch := omega) only [ss, cond_true, cond_false, Option.bind_some, h59, h61, szS, mk_app, List.length_append, List.length_singleton]
    have : [59] ++ name ++ [61] ++ jn 44 (l.map Lib.itoa) = tl (opt true name (jn 44 (l.map Lib.itoa))) := by simp [opt, tl]
    rw [this]
  | succ k ih =>
   intro i hk hil
   have hlt : i < l.length := by omega
   have hn' := hb _ (getD_mem' 0 hlt)
   have hD := dec_spec (l.getD i 0) (by omega) (by omega)
   have hl4 := itoa_l4 (l.getD i 0) (by omega) (by omega)
   have hpl := itx_len (l.take i) (by rw [List.length_take]; omega) (small_take hb i)
   have := ih (i + 1) (by omega) (by omega)
   rw [take_getD' 0 hlt, List.map_append, List.map_singleton, jn_snoc, dp (show (l.length : Int) > 0 by omega)] at this
   rw [vokref4_list.l1_eq]
   by_cases c : i = 0
   ·subst c
    have e0 : (l.take 0).map Lib.itoa = [] := by simp
    rw [e0] at this ⊢
    rw [if_pos rfl] at this
    have hj0 : jn 44 ([] : List (List UInt8)) = [] := rfl
    rw [hj0]
    simp (disch := omega) only [ss, cond_true, cond_false, Option.bind_some, vokref4_list.l2_eq, hD, szS, mk_app, List.length_nil, List.nil_append]
    exact this
   ·have hne : (l.take i).map Lib.itoa ≠ [] := by
     intro q
     have := congrArg List.length q
     rw [List.length_map, List.length_take, List.length_nil] at this
     omega
    rw [if_neg hne] at this
    simp (disch := omega) only [ss, cond_true, cond_false, Option.bind_some, h44, vokref4_list.l2_eq, hD, szS, mk_app, List.length_append, List.length_singleton]
    rw [show jn 44 ((l.take i).map Lib.itoa) ++ [44] ++ Lib.itoa (l.getD i 0) = jn 44 ((l.take i).map Lib.itoa) ++ 44 :: Lib.itoa (l.getD i 0) by simp]
    exact this
 have := key _ 0 rfl (Nat.zero_le _)
 rw [Int.natCast_zero] at this
 rw [vokref4_list.f_eq]
 exact this
theorem smallD_take {l : List Dy} (h : smallD l) (i : Nat) : smallD (l.take i) := fun n hn => h n (List.mem_of_mem_take hn)
section
variable (f iv ct un wk : Int) (en : Bool) (mo we yd md : List Int) (dy : List Dy) (ho mi se po : List Int)
def preD (dy : List Dy) (i : Nat) : List UInt8 := if i = 0 then [] else [59, 66, 89, 68, 65, 89, 61] ++ jn 44 ((dy.take i).map dt)
theorem vday_loop (h : dy.length ≤ 60) (hb : smallD dy) (s : List UInt8) (hs : s.length ≤ 100000) : ∀ (k i : Nat), dy.length - i = k → i ≤ dy.length →
  vokref4_Print.l4 (mkS (s ++ preD dy i)) i f iv ct un wk en mo we yd md dy ho mi se po = vokref4_Print.l4 (mkS (s ++ tl (opt (decide ((dy.length : Int) > 0)) [66, 89, 68, 65, 89] (jn 44 (dy.map dt))))) dy.length f iv ct un wk en mo we yd md dy ho mi se po := by
 have h44 : (⟨#[44]⟩ : ByteArray) = mkS [44] := rfl
 have hB : (⟨#[59, 66, 89, 68, 65, 89, 61]⟩ : ByteArray) = mkS [59, 66, 89, 68, 65, 89, 61] := rfl
 have hBl : ([59, 66, 89, 68, 65, 89, 61] : List UInt8).length = 7 := rfl
 intro k
 induction k with
 | zero =>
  intro i hk hil
  have e : i = dy.length := by omega
  subst e
  congr 2
  unfold preD
  rw [List.take_length]
  by_cases c : dy.length = 0
  ·rw [if_pos c, dn (by omega)]
   rfl
  ·rw [if_neg c, dp (by omega)]
   simp [opt, tl]
 | succ k ih =>
  intro i hk hil
  have hlt : i < dy.length := by omega
  have hn := hb _ (getD_mem' ((0, 0, ()) : Dy) hlt)
  have := ih (i + 1) (by omega) (by omega)
  rw [← this]
  have hpl := dtx_len (dy.take i) (by rw [List.length_take]; omega) (smallD_take hb i)
  have hpre : preD dy (i + 1) = (if i = 0 then [59, 66, 89, 68, 65, 89, 61] else preD dy i ++ [44]) ++ dt (dy.getD i ((0, 0, ()) : Dy)) := by
   unfold preD
   rw [if_neg (by omega), take_getD' ((0, 0, ()) : Dy) hlt, List.map_append, List.map_singleton, jn_snoc]
   by_cases c : i = 0
   ·subst c
    rw [if_pos (by simp), if_pos rfl]
   ·have hne : (dy.take i).map dt ≠ [] := by
     intro q
     have := congrArg List.length q
     rw [List.length_map, List.length_take, List.length_nil] at this
     omega
    rw [if_neg hne, if_neg c, if_neg c]
    simp
  have hprel : (preD dy i).length ≤ 430 := by
   unfold preD
   split
   ·exact Nat.zero_le _
   ·rw [List.length_append]; omega
  rw [hpre]
  have hdl := dt_len (dy.getD i ((0, 0, ()) : Dy)) ⟨hn.1, hn.2.1⟩
  generalize hd : dy.getD i ((0, 0, ()) : Dy) = d at hn hdl
  have hd' : dy.getD i ((0, 0, ()) : Int × Int × Unit) = d := hd
  have hD := dec_spec d.1 (by omega) (by omega)
  have hgw := gm wd d.2.1.toNat (by rw [wd7]; omega)
  have hwl : ((wd.map mkS).length : Int) = 7 := rfl
  have hl4 := itoa_l4 d.1 (by omega) (by omega)
  have hl2 := wd_len d.2.1.toNat
  have step : ∀ t : List UInt8, t.length ≤ 101000 → vokref4_Print.l5 (mkS t) (i : Int) f iv ct un wk en mo we yd md dy ho mi se po = vokref4_Print.l4 (mkS (t ++ dt d)) ((i + 1 : Nat) : Int) f iv ct un wk en mo we yd md dy ho mi se po := fun t ht => by
   rw [vokref4_Print.l5_eq]
   by_cases c : d.1 = 0
   ·have e : dt d = wd.getD d.2.1.toNat [] := by unfold dt; rw [if_pos c]; rfl
    rw [e]
    simp (disch := omega) only [ss, cond_true, cond_false, Option.bind_some, hd', vokref4_Print.l6_eq, wdays_eq, hwl, hgw, szS, mk_app, Int.natCast_add, Int.natCast_one]
   ·have e : dt d = Lib.itoa d.1 ++ wd.getD d.2.1.toNat [] := by unfold dt; rw [if_neg c]
    rw [e, ← List.append_assoc]
    simp (disch := omega) only [ss, cond_true, cond_false, Option.bind_some, hd', hD, vokref4_Print.l6_eq, wdays_eq, hwl, hgw, szS, mk_app, List.length_append, Int.natCast_add, Int.natCast_one]
  rw [vokref4_Print.l4_eq]
  by_cases c : i = 0
  ·subst c
   rw [if_pos rfl]
   have e0 : preD dy 0 = [] := rfl
   rw [e0, List.append_nil]
   have hst := step (s ++ [59, 66, 89, 68, 65, 89, 61]) (by rw [List.length_append]; omega)
   rw [List.append_assoc, Int.natCast_zero] at hst
   simp (disch := omega) only [ss, cond_true, cond_false, Option.bind_some, hB, szS, hBl, mk_app]
   exact hst
  ·rw [if_neg c]
   have hst := step (s ++ preD dy i ++ [44]) (by rw [List.length_append, List.length_append, List.length_singleton]; omega)
   simp (disch := omega) only [ss, cond_true, cond_false, Option.bind_some, h44, szS, List.length_append, List.length_singleton, mk_app]
   rw [hst]
   simp only [List.append_assoc]
theorem vprint_spec (hM : vokref4_May.f (f, iv, ct, un, wk, en, mo, we, yd, md, dy, ho, mi, se, po, ()) = some (true, ())) (hp : mayP f iv ct un wk en mo we yd md dy ho mi se po) : vokref4_Print.f (f, iv, ct, un, wk, en, mo, we, yd, md, dy, ho, mi, se, po, ()) = some (mkS (jn 59 (parts f iv ct un wk en mo we yd md dy ho mi se po)), 0, ()) := by
 obtain ⟨b1, b2, b3, bmo, bwe, byd, bmd, bdy, bho, bmi, bse, bpo⟩ := bounds f iv ct un wk en mo we yd md dy ho mi se po hp
 obtain ⟨u1, _, _, u2, _⟩ := utx_all un b3
 have hwf : (fw.getD (f - 1).toNat []).length ≤ 8 := fw_len _
 have hwk : (wd.getD wk.toNat []).length ≤ 2 := wd_len _
 have li := itoa_l4 iv (by omega) (by omega)
 have lc := itoa_l4 ct (by omega) (by omega)
 have hIi := dec_spec iv (by omega) (by omega)
 have hIc := dec_spec ct (by omega) (by omega)
 have hfr : (([] : List UInt8) :: fw).getD f.toNat [] = fw.getD (f - 1).toNat [] := by
  have : f = 1 ∨ f = 2 ∨ f = 3 ∨ f = 4 ∨ f = 5 ∨ f = 6 ∨ f = 7 := by omega
  rcases this with rfl | rfl | rfl | rfl | rfl | rfl | rfl <;> rfl
 have hgf := gm (([] : List UInt8) :: fw) f.toNat (by rw [List.length_cons, fw7]; omega)
 rw [hfr] at hgf
 have hgw := gm wd wk.toNat (by rw [wd7]; omega)
 have hfl : (((([] : List UInt8) :: fw).map mkS).length : Int) = 8 := rfl
 have hwl : ((wd.map mkS).length : Int) = 7 := rfl
 have hF : (⟨#[70, 82, 69, 81, 61]⟩ : ByteArray) = mkS [70, 82, 69, 81, 61] := rfl
 obtain ⟨s0, e0⟩ : ∃ s, s = [70, 82, 69, 81] ++ 61 :: fw.getD (f - 1).toNat [] := ⟨_, rfl⟩
 have hs0 : [70, 82, 69, 81, 61] ++ fw.getD (f - 1).toNat [] = s0 := by rw [e0]; rfl
 have l0 : s0.length ≤ 13 := by rw [e0]; simp only [List.length_append, List.length_cons, List.length_nil]; omega
 have n1 : (⟨#[59, 73, 78, 84, 69, 82, 86, 65, 76, 61]⟩ : ByteArray) = mkS [59, 73, 78, 84, 69, 82, 86, 65, 76, 61] := rfl
 have n2 : (⟨#[59, 67, 79, 85, 78, 84, 61]⟩ : ByteArray) = mkS [59, 67, 79, 85, 78, 84, 61] := rfl
 have n3 : (⟨#[59, 85, 78, 84, 73, 76, 61]⟩ : ByteArray) = mkS [59, 85, 78, 84, 73, 76, 61] := rfl
 have n4 : (⟨#[59, 87, 75, 83, 84, 61]⟩ : ByteArray) = mkS [59, 87, 75, 83, 84, 61] := rfl
 have z1 : ([59, 73, 78, 84, 69, 82, 86, 65, 76, 61] : List UInt8).length = 10 := rfl
 have z2 : ([59, 67, 79, 85, 78, 84, 61] : List UInt8).length = 7 := rfl
 have z3 : ([59, 85, 78, 84, 73, 76, 61] : List UInt8).length = 7 := rfl
 have z4 : ([59, 87, 75, 83, 84, 61] : List UInt8).length = 6 := rfl
 have z0 : ([70, 82, 69, 81, 61] : List UInt8).length = 5 := rfl
 obtain ⟨o1, q1⟩ : ∃ o, o = tl (opt (!decide (iv = 1)) [73, 78, 84, 69, 82, 86, 65, 76] (Lib.itoa iv)) := ⟨_, rfl⟩
 obtain ⟨o2, q2⟩ : ∃ o, o = tl (opt (!decide (ct = 0)) [67, 79, 85, 78, 84] (Lib.itoa ct)) := ⟨_, rfl⟩
 obtain ⟨o3, q3⟩ : ∃ o, o = tl (opt en [85, 78, 84, 73, 76] (utx un)) := ⟨_, rfl⟩
 obtain ⟨m1, r1⟩ : ∃ o, o = tl (opt (decide ((mo.length : Int) > 0)) [66, 89, 77, 79, 78, 84, 72] (jn 44 (mo.map Lib.itoa))) := ⟨_, rfl⟩
 obtain ⟨m2, r2⟩ : ∃ o, o = tl (opt (decide ((we.length : Int) > 0)) [66, 89, 87, 69, 69, 75, 78, 79] (jn 44 (we.map Lib.itoa))) := ⟨_, rfl⟩
 obtain ⟨m3, r3⟩ : ∃ o, o = tl (opt (decide ((yd.length : Int) > 0)) [66, 89, 89, 69, 65, 82, 68, 65, 89] (jn 44 (yd.map Lib.itoa))) := ⟨_, rfl⟩
 obtain ⟨m4, r4⟩ : ∃ o, o = tl (opt (decide ((md.length : Int) > 0)) [66, 89, 77, 79, 78, 84, 72, 68, 65, 89] (jn 44 (md.map Lib.itoa))) := ⟨_, rfl⟩
 obtain ⟨o5, q5⟩ : ∃ o, o = tl (opt (decide ((dy.length : Int) > 0)) [66, 89, 68, 65, 89] (jn 44 (dy.map dt))) := ⟨_, rfl⟩
 obtain ⟨m5, r5⟩ : ∃ o, o = tl (opt (decide ((ho.length : Int) > 0)) [66, 89, 72, 79, 85, 82] (jn 44 (ho.map Lib.itoa))) := ⟨_, rfl⟩
 obtain ⟨m6, r6⟩ : ∃ o, o = tl (opt (decide ((mi.length : Int) > 0)) [66, 89, 77, 73, 78, 85, 84, 69] (jn 44 (mi.map Lib.itoa))) := ⟨_, rfl⟩
 obtain ⟨m7, r7⟩ : ∃ o, o = tl (opt (decide ((se.length : Int) > 0)) [66, 89, 83, 69, 67, 79, 78, 68] (jn 44 (se.map Lib.itoa))) := ⟨_, rfl⟩
 obtain ⟨m8, r8⟩ : ∃ o, o = tl (opt (decide ((po.length : Int) > 0)) [66, 89, 83, 69, 84, 80, 79, 83] (jn 44 (po.map Lib.itoa))) := ⟨_, rfl⟩
 obtain ⟨o9, q9⟩ : ∃ o, o = tl (opt (!decide (wk = 0)) [87, 75, 83, 84] (wd.getD wk.toNat [])) := ⟨_, rfl⟩
 have L : ∀ (b : Bool) (name v o : List UInt8), o = tl (opt b name v) → o.length ≤ name.length + v.length + 2 := fun b name v o e => by rw [e]; exact tl_len b name v
 have ll : ∀ (x : List Int) (name o : List UInt8), x.length ≤ 60 → small x → name.length ≤ 20 → o = tl (opt (decide ((x.length : Int) > 0)) name (jn 44 (x.map Lib.itoa))) → o.length ≤ 400 := fun x name o h1 h2 h3 e => by
  have := L _ _ _ _ e
  have := itx_len x h1 h2
  omega
 have y1 : o1.length ≤ 100 := by have := L _ _ _ _ q1; rw [show ([73, 78, 84, 69, 82, 86, 65, 76] : List UInt8).length = 8 from rfl] at this; omega
 have y2 : o2.length ≤ 100 := by have := L _ _ _ _ q2; rw [show ([67, 79, 85, 78, 84] : List UInt8).length = 5 from rfl] at this; omega
 have y3 : o3.length ≤ 100 := by have := L _ _ _ _ q3; rw [show ([85, 78, 84, 73, 76] : List UInt8).length = 5 from rfl] at this; omega
 have y5 : o5.length ≤ 500 := by have := L _ _ _ _ q5; have := dtx_len dy bdy.1 bdy.2; rw [show ([66, 89, 68, 65, 89] : List UInt8).length = 5 from rfl] at *; omega
 have k1 := ll mo _ m1 bmo.1 bmo.2 (by decide) r1
 have k2 := ll we _ m2 bwe.1 bwe.2 (by decide) r2
 have k3 := ll yd _ m3 byd.1 byd.2 (by decide) r3
 have k4 := ll md _ m4 bmd.1 bmd.2 (by decide) r4
 have k5 := ll ho _ m5 bho.1 bho.2 (by decide) r5
 have k6 := ll mi _ m6 bmi.1 bmi.2 (by decide) r6
 have k7 := ll se _ m7 bse.1 bse.2 (by decide) r7
 have k8 := ll po _ m8 bpo.1 bpo.2 (by decide) r8
 have v1 := vlist_spec [66, 89, 77, 79, 78, 84, 72] mo (by decide) bmo.1 bmo.2
 have v2 := vlist_spec [66, 89, 87, 69, 69, 75, 78, 79] we (by decide) bwe.1 bwe.2
 have v3 := vlist_spec [66, 89, 89, 69, 65, 82, 68, 65, 89] yd (by decide) byd.1 byd.2
 have v4 := vlist_spec [66, 89, 77, 79, 78, 84, 72, 68, 65, 89] md (by decide) bmd.1 bmd.2
 have v5 := vlist_spec [66, 89, 72, 79, 85, 82] ho (by decide) bho.1 bho.2
 have v6 := vlist_spec [66, 89, 77, 73, 78, 85, 84, 69] mi (by decide) bmi.1 bmi.2
 have v7 := vlist_spec [66, 89, 83, 69, 67, 79, 78, 68] se (by decide) bse.1 bse.2
 have v8 := vlist_spec [66, 89, 83, 69, 84, 80, 79, 83] po (by decide) bpo.1 bpo.2
 rw [← r1] at v1
 rw [← r2] at v2
 rw [← r3] at v3
 rw [← r4] at v4
 rw [← r5] at v5
 rw [← r6] at v6
 rw [← r7] at v7
 rw [← r8] at v8
 have hfin : s0 ++ o1 ++ o2 ++ o3 ++ (m1 ++ m2 ++ m3 ++ m4) ++ o5 ++ (m5 ++ m6 ++ m7 ++ m8) ++ o9 = jn 59 (parts f iv ct un wk en mo we yd md dy ho mi se po) := by
  unfold parts rest
  rw [jn_tl, ← e0]
  simp only [tl_app]
  rw [q1, q2, q3, r1, r2, r3, r4, q5, r5, r6, r7, r8, q9]
  simp only [List.append_assoc]
 have p4 : ∀ s : List UInt8, s.length ≤ 10000 → vokref4_Print.l4 (mkS s) dy.length f iv ct un wk en mo we yd md dy ho mi se po = some (mkS (s ++ (m5 ++ m6 ++ m7 ++ m8) ++ o9), 0, ()) := fun s hs => by
  have hge : ¬ ((dy.length : Int) < (dy.length : Int)) := Int.lt_irrefl _
  rw [vokref4_Print.l4_eq, dn hge, cond_false]
  simp only [nm10, nm11, nm12, nm13, v5, v6, v7, v8, Option.bind_some]
  by_cases c : wk = 0
  ·have e9 : o9 = [] := by rw [q9, dp c]; rfl
   rw [e9]
   simp (disch := omega) only [ss, cond_true, cond_false, Option.bind_some, szS, mk_app, List.length_append, List.append_nil]
  ·have e9 : o9 = [59, 87, 75, 83, 84, 61] ++ wd.getD wk.toNat [] := by rw [q9, dn c]; simp [opt, tl]
   rw [e9]
   simp (disch := omega) only [ss, cond_true, cond_false, Option.bind_some, szS, mk_app, List.length_append, wdays_eq, hwl, hgw, n4, z4]
 have p3 : ∀ s : List UInt8, s.length ≤ 5000 → vokref4_Print.l3 (mkS s) f iv ct un wk en mo we yd md dy ho mi se po = some (mkS (s ++ (m1 ++ m2 ++ m3 ++ m4) ++ o5 ++ (m5 ++ m6 ++ m7 ++ m8) ++ o9), 0, ()) := fun s hs => by
  have hd := vday_loop f iv ct un wk en mo we yd md dy ho mi se po bdy.1 bdy.2 (s ++ (m1 ++ m2 ++ m3 ++ m4)) (by simp only [List.length_append]; omega) _ 0 rfl (Nat.zero_le _)
  have e0 : preD dy 0 = [] := rfl
  rw [e0, List.append_nil, ← q5, Int.natCast_zero, p4 _ (by simp only [List.length_append]; omega)] at hd
  rw [vokref4_Print.l3_eq]
  simp only [nm6, nm7, nm8, nm9, v1, v2, v3, v4, Option.bind_some]
  simp (disch := omega) only [ss, cond_true, cond_false, Option.bind_some, szS, mk_app, List.length_append, hd]
 have p2 : ∀ s : List UInt8, s.length ≤ 4000 → vokref4_Print.l2 (mkS s) f iv ct un wk en mo we yd md dy ho mi se po = some (mkS (s ++ o3 ++ (m1 ++ m2 ++ m3 ++ m4) ++ o5 ++ (m5 ++ m6 ++ m7 ++ m8) ++ o9), 0, ()) := fun s hs => by
  rw [vokref4_Print.l2_eq]
  cases en with
  | false =>
   have e3 : o3 = [] := by rw [q3]; rfl
   rw [cond_false, p3 s (by omega), e3, List.append_nil]
  | true =>
   have e3 : o3 = [59, 85, 78, 84, 73, 76, 61] ++ utx un := by rw [q3]; simp [opt, tl]
   have h3 := p3 (s ++ o3) (by simp only [List.length_append]; omega)
   rw [e3] at h3 ⊢
   simp (disch := omega) only [ss, cond_true, cond_false, Option.bind_some, u2, n3, szS, z3, mk_app, List.length_append]
   exact h3
 have p1 : ∀ s : List UInt8, s.length ≤ 3000 → vokref4_Print.l1 (mkS s) f iv ct un wk en mo we yd md dy ho mi se po = some (mkS (s ++ o2 ++ o3 ++ (m1 ++ m2 ++ m3 ++ m4) ++ o5 ++ (m5 ++ m6 ++ m7 ++ m8) ++ o9), 0, ()) := fun s hs => by
  rw [vokref4_Print.l1_eq]
  by_cases c : ct = 0
  ·have e2 : o2 = [] := by rw [q2, dp c]; rfl
   rw [dp c, Bool.not_true, cond_false, p2 s (by omega), e2, List.append_nil]
  ·have e2 : o2 = [59, 67, 79, 85, 78, 84, 61] ++ Lib.itoa ct := by rw [q2, dn c]; simp [opt, tl]
   have h3 := p2 (s ++ o2) (by simp only [List.length_append]; omega)
   rw [e2] at h3 ⊢
   simp (disch := omega) only [ss, cond_true, cond_false, Option.bind_some, hIc, n2, szS, z2, mk_app, List.length_append]
   exact h3
 rw [vokref4_Print.f_eq]
 simp only [hM, Option.bind_some, Bool.not_true, cond_false, freqs_eq, hgf, hF, mk_app, hs0, szS, hfl, z0]
 by_cases c : iv = 1
 ·have e1 : o1 = [] := by rw [q1, dp c]; rfl
  have h3 := p1 s0 (by omega)
  rw [← hfin, e1, List.append_nil]
  simp (disch := omega) only [ss, cond_true, cond_false, Option.bind_some]
  exact h3
 ·have e1 : o1 = [59, 73, 78, 84, 69, 82, 86, 65, 76, 61] ++ Lib.itoa iv := by rw [q1, dn c]; simp [opt, tl]
  have h3 := p1 (s0 ++ o1) (by simp only [List.length_append]; omega)
  rw [← hfin]
  rw [e1] at h3 ⊢
  simp (disch := omega) only [ss, cond_true, cond_false, Option.bind_some, hIi, n1, szS, z1, mk_app, List.length_append]
  exact h3
end
theorem vprint_no (r : Rl) (hM : vokref4_May.f r = some (false, ())) : vokref4_Print.f r = some (mkS [], 1, ()) := by
 have hM : vokref4_May.f (r.1, r.2.1, r.2.2.1, r.2.2.2.1, r.2.2.2.2.1, r.2.2.2.2.2.1, r.2.2.2.2.2.2.1, r.2.2.2.2.2.2.2.1, r.2.2.2.2.2.2.2.2.1, r.2.2.2.2.2.2.2.2.2.1, r.2.2.2.2.2.2.2.2.2.2.1, r.2.2.2.2.2.2.2.2.2.2.2.1, r.2.2.2.2.2.2.2.2.2.2.2.2.1, r.2.2.2.2.2.2.2.2.2.2.2.2.2.1, r.2.2.2.2.2.2.2.2.2.2.2.2.2.2.1, ()) = some (false, ()) := hM
 rw [vokref4_Print.f_eq, hM]
 rfl
theorem RulePrints_pure (r q : Rl) : voklaw5_RulePrints.f r q = some (true, ()) := by
 have l1t : voklaw5_RulePrints.l1 true r.1 r.2.1 r.2.2.1 r.2.2.2.1 r.2.2.2.2.1 r.2.2.2.2.2.1 r.2.2.2.2.2.2.1 r.2.2.2.2.2.2.2.1 r.2.2.2.2.2.2.2.2.1 r.2.2.2.2.2.2.2.2.2.1 r.2.2.2.2.2.2.2.2.2.2.1 r.2.2.2.2.2.2.2.2.2.2.2.1 r.2.2.2.2.2.2.2.2.2.2.2.2.1 r.2.2.2.2.2.2.2.2.2.2.2.2.2.1 r.2.2.2.2.2.2.2.2.2.2.2.2.2.2.1 q.1 q.2.1 q.2.2.1 q.2.2.2.1 q.2.2.2.2.1 q.2.2.2.2.2.1 q.2.2.2.2.2.2.1 q.2.2.2.2.2.2.2.1 q.2.2.2.2.2.2.2.2.1 q.2.2.2.2.2.2.2.2.2.1 q.2.2.2.2.2.2.2.2.2.2.1 q.2.2.2.2.2.2.2.2.2.2.2.1 q.2.2.2.2.2.2.2.2.2.2.2.2.1 q.2.2.2.2.2.2.2.2.2.2.2.2.2.1 q.2.2.2.2.2.2.2.2.2.2.2.2.2.2.1 = some (true, ()) := by rw [voklaw5_RulePrints.l1_eq, cond_true, first_true]; rfl
 obtain ⟨b, hb, hsh⟩ := few_some r
 obtain ⟨d, hd, hsq⟩ := few_some q
 have hF : vokref_FewRule.f (r.1, r.2.1, r.2.2.1, r.2.2.2.1, r.2.2.2.2.1, r.2.2.2.2.2.1, r.2.2.2.2.2.2.1, r.2.2.2.2.2.2.2.1, r.2.2.2.2.2.2.2.2.1, r.2.2.2.2.2.2.2.2.2.1, r.2.2.2.2.2.2.2.2.2.2.1, r.2.2.2.2.2.2.2.2.2.2.2.1, r.2.2.2.2.2.2.2.2.2.2.2.2.1, r.2.2.2.2.2.2.2.2.2.2.2.2.2.1, r.2.2.2.2.2.2.2.2.2.2.2.2.2.2.1, ()) = some (b, ()) := hb
 have hG : vokref_FewRule.f (q.1, q.2.1, q.2.2.1, q.2.2.2.1, q.2.2.2.2.1, q.2.2.2.2.2.1, q.2.2.2.2.2.2.1, q.2.2.2.2.2.2.2.1, q.2.2.2.2.2.2.2.2.1, q.2.2.2.2.2.2.2.2.2.1, q.2.2.2.2.2.2.2.2.2.2.1, q.2.2.2.2.2.2.2.2.2.2.2.1, q.2.2.2.2.2.2.2.2.2.2.2.2.1, q.2.2.2.2.2.2.2.2.2.2.2.2.2.1, q.2.2.2.2.2.2.2.2.2.2.2.2.2.2.1, ()) = some (d, ()) := hd
 rw [voklaw5_RulePrints.f_eq, first_true, hF]
 simp only [Option.bind_some, Bool.not_true, cond_false]
 cases b with
 | false => rw [Bool.not_false, cond_true, l1t]
 | true =>
  rw [Bool.not_true, cond_false, hG]
  simp only [Option.bind_some]
  cases d with
  | false => rw [Bool.not_false, l1t]
  | true =>
   have hr := hsh rfl
   have hC : vokref_CopyRule.f (r.1, r.2.1, r.2.2.1, r.2.2.2.1, r.2.2.2.2.1, r.2.2.2.2.2.1, r.2.2.2.2.2.2.1, r.2.2.2.2.2.2.2.1, r.2.2.2.2.2.2.2.2.1, r.2.2.2.2.2.2.2.2.2.1, r.2.2.2.2.2.2.2.2.2.2.1, r.2.2.2.2.2.2.2.2.2.2.2.1, r.2.2.2.2.2.2.2.2.2.2.2.2.1, r.2.2.2.2.2.2.2.2.2.2.2.2.2.1, r.2.2.2.2.2.2.2.2.2.2.2.2.2.2.1, ()) = some (r, ()) := copy_rule r hr
   obtain ⟨u, hu, eu⟩ := same_tells r q hr
   obtain ⟨v, hv, ev⟩ := rule_tells r q hr
   obtain ⟨w, hw, ew⟩ := rule_tells r r hr
   have hw1 : w = true := ew.2 rfl
   subst hw1
   have hSu : rule_Same.f (r.1, r.2.1, r.2.2.1, r.2.2.2.1, r.2.2.2.2.1, r.2.2.2.2.2.1, r.2.2.2.2.2.2.1, r.2.2.2.2.2.2.2.1, r.2.2.2.2.2.2.2.2.1, r.2.2.2.2.2.2.2.2.2.1, r.2.2.2.2.2.2.2.2.2.2.1, r.2.2.2.2.2.2.2.2.2.2.2.1, r.2.2.2.2.2.2.2.2.2.2.2.2.1, r.2.2.2.2.2.2.2.2.2.2.2.2.2.1, r.2.2.2.2.2.2.2.2.2.2.2.2.2.2.1, ()) (q.1, q.2.1, q.2.2.1, q.2.2.2.1, q.2.2.2.2.1, q.2.2.2.2.2.1, q.2.2.2.2.2.2.1, q.2.2.2.2.2.2.2.1, q.2.2.2.2.2.2.2.2.1, q.2.2.2.2.2.2.2.2.2.1, q.2.2.2.2.2.2.2.2.2.2.1, q.2.2.2.2.2.2.2.2.2.2.2.1, q.2.2.2.2.2.2.2.2.2.2.2.2.1, q.2.2.2.2.2.2.2.2.2.2.2.2.2.1, q.2.2.2.2.2.2.2.2.2.2.2.2.2.2.1, ()) = some (u, ()) := hu
   have hSv : vokref_Rule.f (r.1, r.2.1, r.2.2.1, r.2.2.2.1, r.2.2.2.2.1, r.2.2.2.2.2.1, r.2.2.2.2.2.2.1, r.2.2.2.2.2.2.2.1, r.2.2.2.2.2.2.2.2.1, r.2.2.2.2.2.2.2.2.2.1, r.2.2.2.2.2.2.2.2.2.2.1, r.2.2.2.2.2.2.2.2.2.2.2.1, r.2.2.2.2.2.2.2.2.2.2.2.2.1, r.2.2.2.2.2.2.2.2.2.2.2.2.2.1, r.2.2.2.2.2.2.2.2.2.2.2.2.2.2.1, ()) (q.1, q.2.1, q.2.2.1, q.2.2.2.1, q.2.2.2.2.1, q.2.2.2.2.2.1, q.2.2.2.2.2.2.1, q.2.2.2.2.2.2.2.1, q.2.2.2.2.2.2.2.2.1, q.2.2.2.2.2.2.2.2.2.1, q.2.2.2.2.2.2.2.2.2.2.1, q.2.2.2.2.2.2.2.2.2.2.2.1, q.2.2.2.2.2.2.2.2.2.2.2.2.1, q.2.2.2.2.2.2.2.2.2.2.2.2.2.1, q.2.2.2.2.2.2.2.2.2.2.2.2.2.2.1, ()) = some (v, ()) := hv
   have hSw : vokref_Rule.f (r.1, r.2.1, r.2.2.1, r.2.2.2.1, r.2.2.2.2.1, r.2.2.2.2.2.1, r.2.2.2.2.2.2.1, r.2.2.2.2.2.2.2.1, r.2.2.2.2.2.2.2.2.1, r.2.2.2.2.2.2.2.2.2.1, r.2.2.2.2.2.2.2.2.2.2.1, r.2.2.2.2.2.2.2.2.2.2.2.1, r.2.2.2.2.2.2.2.2.2.2.2.2.1, r.2.2.2.2.2.2.2.2.2.2.2.2.2.1, r.2.2.2.2.2.2.2.2.2.2.2.2.2.2.1, ()) (r.1, r.2.1, r.2.2.1, r.2.2.2.1, r.2.2.2.2.1, r.2.2.2.2.2.1, r.2.2.2.2.2.2.1, r.2.2.2.2.2.2.2.1, r.2.2.2.2.2.2.2.2.1, r.2.2.2.2.2.2.2.2.2.1, r.2.2.2.2.2.2.2.2.2.2.1, r.2.2.2.2.2.2.2.2.2.2.2.1, r.2.2.2.2.2.2.2.2.2.2.2.2.1, r.2.2.2.2.2.2.2.2.2.2.2.2.2.1, r.2.2.2.2.2.2.2.2.2.2.2.2.2.2.1, ()) = some (true, ()) := hw
   have huv : u = v := by
    have : u = true ↔ v = true := eu.trans ev.symm
    cases u <;> cases v <;> first | rfl | exact absurd (this.1 rfl) (by simp) | exact absurd (this.2 rfl) (by simp)
   subst huv
   obtain ⟨m, hm⟩ := may_some r hr
   have hms := may_same r hr
   rw [hm] at hms
   have hM : rule_May.f (r.1, r.2.1, r.2.2.1, r.2.2.2.1, r.2.2.2.2.1, r.2.2.2.2.2.1, r.2.2.2.2.2.2.1, r.2.2.2.2.2.2.2.1, r.2.2.2.2.2.2.2.2.1, r.2.2.2.2.2.2.2.2.2.1, r.2.2.2.2.2.2.2.2.2.2.1, r.2.2.2.2.2.2.2.2.2.2.2.1, r.2.2.2.2.2.2.2.2.2.2.2.2.1, r.2.2.2.2.2.2.2.2.2.2.2.2.2.1, r.2.2.2.2.2.2.2.2.2.2.2.2.2.2.1, ()) = some (m, ()) := hm
   have hV : vokref4_May.f (r.1, r.2.1, r.2.2.1, r.2.2.2.1, r.2.2.2.2.1, r.2.2.2.2.2.1, r.2.2.2.2.2.2.1, r.2.2.2.2.2.2.2.1, r.2.2.2.2.2.2.2.2.1, r.2.2.2.2.2.2.2.2.2.1, r.2.2.2.2.2.2.2.2.2.2.1, r.2.2.2.2.2.2.2.2.2.2.2.1, r.2.2.2.2.2.2.2.2.2.2.2.2.1, r.2.2.2.2.2.2.2.2.2.2.2.2.2.1, r.2.2.2.2.2.2.2.2.2.2.2.2.2.2.1, ()) = some (m, ()) := hms.symm
   have hPQ : ∃ t e, rule_Print.f (r.1, r.2.1, r.2.2.1, r.2.2.2.1, r.2.2.2.2.1, r.2.2.2.2.2.1, r.2.2.2.2.2.2.1, r.2.2.2.2.2.2.2.1, r.2.2.2.2.2.2.2.2.1, r.2.2.2.2.2.2.2.2.2.1, r.2.2.2.2.2.2.2.2.2.2.1, r.2.2.2.2.2.2.2.2.2.2.2.1, r.2.2.2.2.2.2.2.2.2.2.2.2.1, r.2.2.2.2.2.2.2.2.2.2.2.2.2.1, r.2.2.2.2.2.2.2.2.2.2.2.2.2.2.1, ()) = some (mkS t, e, ()) ∧ vokref4_Print.f (r.1, r.2.1, r.2.2.1, r.2.2.2.1, r.2.2.2.2.1, r.2.2.2.2.2.1, r.2.2.2.2.2.2.1, r.2.2.2.2.2.2.2.1, r.2.2.2.2.2.2.2.2.1, r.2.2.2.2.2.2.2.2.2.1, r.2.2.2.2.2.2.2.2.2.2.1, r.2.2.2.2.2.2.2.2.2.2.2.1, r.2.2.2.2.2.2.2.2.2.2.2.2.1, r.2.2.2.2.2.2.2.2.2.2.2.2.2.1, r.2.2.2.2.2.2.2.2.2.2.2.2.2.2.1, ()) = some (mkS t, e, ()) := by
    cases m with
    | false => exact ⟨[], 1, print_no r hm, vprint_no r hms.symm⟩
    | true => exact ⟨_, 0, (print_ok r hr hm).1, vprint_spec r.1 r.2.1 r.2.2.1 r.2.2.2.1 r.2.2.2.2.1 r.2.2.2.2.2.1 r.2.2.2.2.2.2.1 r.2.2.2.2.2.2.2.1 r.2.2.2.2.2.2.2.2.1 r.2.2.2.2.2.2.2.2.2.1 r.2.2.2.2.2.2.2.2.2.2.1 r.2.2.2.2.2.2.2.2.2.2.2.1 r.2.2.2.2.2.2.2.2.2.2.2.2.1 r.2.2.2.2.2.2.2.2.2.2.2.2.2.1 r.2.2.2.2.2.2.2.2.2.2.2.2.2.2.1 hV (may_true hr hm)⟩
   obtain ⟨t, e, h1, h2⟩ := hPQ
   rw [Bool.not_true, voklaw5_RulePrints.l1_eq, cond_false]
   simp (disch := omega) only [ss, cond_true, cond_false, Option.bind_some, hC, h1, h2, first_true, beq_S, hM, hV, beq_self_eq_true, hSu, hSv, hSw]
end Go.GV.YtkkfgajlnpcpcaaGreatDoor
