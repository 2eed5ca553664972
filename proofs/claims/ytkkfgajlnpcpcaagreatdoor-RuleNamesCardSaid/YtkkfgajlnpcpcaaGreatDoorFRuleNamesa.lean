/-
Part of the words that RuleNames is proved with: no statement of its own, no conditions.
-/
import Derived.Test.YtkkfgajlnpcpcaaGreatDoorZ13
set_option linter.unusedVariables false
set_option linter.unusedSimpArgs false
namespace Go.GV.YtkkfgajlnpcpcaaGreatDoor
open Go.Proofs
theorem one_step (p : List (List UInt8)) (hp : p.length ≤ 10000) (i : Nat) (hlt : i < p.length) (a b : List UInt8) (hs : p.getD i [] = a ++ 61 :: b) (ha : (61 : UInt8) ∉ a) (hl : a.length + b.length ≤ 9000) (r : Rl) (ms : List (List UInt8)) (hms : ms.length ≤ i) :
  (a ∈ ms → PA p i r ms = some (zR, (i : Int), 4, ())) ∧
  (a ∉ ms → PA p i r ms = (rule_part.f r (mkS a) (mkS b)).bind fun t9 => bif !t9.1 then (some (zR, (i : Int), 4, ())) else PA p (i + 1) t9.2.1 (ms ++ [a])) := by
 have hlim : limit = 17179869184 := rfl
 have hml : (p.map mkS).length = p.length := List.length_map ..
 have hg := gm p i hlt
 rw [hs] at hg
 have hc : strings_Cut.f (mkS (a ++ 61 :: b)) ⟨#[61]⟩ = some (mkS a, mkS b, true, ()) := cut_some (c := 61) (by omega) ha
 have hK := contains_spec ms a (by omega)
 have pt : ∀ x9 : ByteArray, rule_Parse.l2a i x9 (p.map mkS) p.length i true 0 0 0 0 0 false r.1 r.2.1 r.2.2.1 r.2.2.2.1 r.2.2.2.2.1 r.2.2.2.2.2.1 r.2.2.2.2.2.2.1 r.2.2.2.2.2.2.2.1 r.2.2.2.2.2.2.2.2.1 r.2.2.2.2.2.2.2.2.2.1 r.2.2.2.2.2.2.2.2.2.2.1 r.2.2.2.2.2.2.2.2.2.2.2.1 r.2.2.2.2.2.2.2.2.2.2.2.2.1 r.2.2.2.2.2.2.2.2.2.2.2.2.2.1 r.2.2.2.2.2.2.2.2.2.2.2.2.2.2.1 (ms.map mkS) = some (zR, (i : Int), 4, ()) := fun x9 => by rw [rule_Parse.l2a_eq, cond_true]; rfl
 constructor
 ·intro c
  unfold PA
  rw [rule_Parse.l1a_eq]
  simp (disch := omega) only [ss, cond_true, cond_false, Option.bind_some, hml, hg]
  rw [hc]
  simp (disch := omega) only [ss, cond_true, cond_false, Option.bind_some, hK, dp c]
  exact pt _
 ·intro c
  have e1 : ms.map mkS ++ [mkS a] = (ms ++ [a]).map mkS := by simp
  show PA p i r ms = ((rule_part.f (r.1, r.2.1, r.2.2.1, r.2.2.2.1, r.2.2.2.2.1, r.2.2.2.2.2.1, r.2.2.2.2.2.2.1, r.2.2.2.2.2.2.2.1, r.2.2.2.2.2.2.2.2.1, r.2.2.2.2.2.2.2.2.2.1, r.2.2.2.2.2.2.2.2.2.2.1, r.2.2.2.2.2.2.2.2.2.2.2.1, r.2.2.2.2.2.2.2.2.2.2.2.2.1, r.2.2.2.2.2.2.2.2.2.2.2.2.2.1, r.2.2.2.2.2.2.2.2.2.2.2.2.2.2.1, ()) (mkS a) (mkS b)).bind fun t9 => bif !t9.1 then (some (zR, (i : Int), 4, ())) else PA p (i + 1) t9.2.1 (ms ++ [a]))
  unfold PA
  rw [rule_Parse.l1a_eq]
  simp (disch := omega) only [ss, cond_true, cond_false, Option.bind_some, hml, hg]
  rw [hc]
  simp (disch := omega) only [ss, cond_true, cond_false, Option.bind_some, hK, dn c]
  congr 1
  funext t9
  rw [rule_Parse.l2a_eq]
  cases t9.1 with
  | false => rfl
  | true =>
   simp (disch := omega) only [ss, cond_true, cond_false, Option.bind_some, List.length_map, List.length_singleton, hlim]
   rw [e1]
   rfl
theorem run_prefix (p : List (List UInt8)) (hp : p.length ≤ 10000) (hpl : ∀ s ∈ p, s.length ≤ 5000) : ∀ (l : List (List UInt8)) (us : List Up) (i : Nat) (r : Rl) (ms : List (List UInt8)) (tail : List (List UInt8)),
  p.drop i = l ++ tail → All2 Good l us → (∀ u ∈ us, u.key ∉ ms) → (keys us).Nodup → ms.length ≤ i → PA p i r ms = PA p (i + l.length) (apAll r us) (ms ++ keys us)
 | [], [], i, r, ms, tail, _, _, _, _, _ => by
  show _ = PA p i r (ms ++ [])
  rw [List.append_nil]
 | s :: l, u :: us, i, r, ms, tail, hd, h, hm, hnd, hms => by
  have hlt : i < p.length := by
   have := congrArg List.length hd
   rw [List.length_drop, List.length_append, List.length_cons] at this
   omega
  rw [drop_getD' [] hlt] at hd
  obtain ⟨e1, e2⟩ := List.cons.inj (show p.getD i [] :: p.drop (i + 1) = s :: (l ++ tail) from hd)
  obtain ⟨b, e3, hn, hg⟩ := h.1
  have hsl := hpl _ (getD_mem' [] hlt)
  rw [e1, e3, List.length_append, List.length_cons] at hsl
  have hst := (one_step p hp i hlt u.key b (e1.trans e3) hn (by omega) r ms hms).2 (hm u (by simp))
  have hnd' : u.key ∉ keys us ∧ (keys us).Nodup := List.nodup_cons.1 hnd
  rw [hst, hg r]
  simp only [Option.bind_some, Bool.not_true, cond_false]
  have ih := run_prefix p hp hpl l us (i + 1) (u.ap r) (ms ++ [u.key]) tail e2 h.2 (fun v hv q => by
   rcases List.mem_append.1 q with q | q
   ·exact hm v (List.mem_cons_of_mem _ hv) q
   ·rw [List.mem_singleton] at q
    exact hnd'.1 (by rw [← q]; exact List.mem_map.2 ⟨v, hv, rfl⟩)) hnd'.2 (by simp; omega)
  rw [ih, List.append_assoc, List.length_cons, show i + 1 + l.length = i + (l.length + 1) by omega]
  rfl
 | [], _ :: _, _, _, _, _, _, h, _, _, _ => h.elim
 | _ :: _, [], _, _, _, _, _, h, _, _, _ => h.elim
theorem segs_app (c : UInt8) : ∀ (l : List (List UInt8)) (x : List UInt8), l ≠ [] → (∀ s ∈ l, c ∉ s) → segs c (jn c l ++ c :: x) = l ++ segs c x
 | [], _, h, _ => absurd rfl h
 | [a], x, _, h => segs_some (h a (by simp))
 | a :: b :: l, x, _, h => by
  show segs c ((a ++ c :: jn c (b :: l)) ++ c :: x) = _
  rw [List.append_assoc, List.cons_append, segs_some (h a (by simp)), segs_app c (b :: l) x (by simp) fun s hs => h s (List.mem_cons_of_mem _ hs)]
  rfl
theorem names_parse (r : Rl) (hr : shortR r) (hM : rule_May.f r = some (true, ())) (hl : (jn 59 (pts r)).length ≤ 2000) (a b more : List UInt8) (ha : (61 : UInt8) ∉ a) (hab : a.length + b.length ≤ 50) (h59 : (59 : UInt8) ∉ a ++ 61 :: b) (hmore : more.length ≤ 1000)
  (hbad : FREQ = a ∨ ∀ r : Rl, ∃ r1, rule_part.f r (mkS a) (mkS b) = some (false, r1, ())) : rule_Parse.f (mkS (jn 59 (pts r) ++ 59 :: ((a ++ 61 :: b) ++ 59 :: more))) = some (zR, ((pts r).length : Int), 4, ()) := by
 obtain ⟨_, _, h3, h4, _, us, h5, h6, h7, h8⟩ := print_ok r hr hM
 have hlen : (jn 59 (pts r) ++ 59 :: ((a ++ 61 :: b) ++ 59 :: more)).length ≤ 4096 := by
  rw [List.length_append, List.length_cons, List.length_append, List.length_append, List.length_cons, List.length_cons]
  omega
 obtain ⟨p, hp⟩ : ∃ p, p = pts r ++ (a ++ 61 :: b) :: segs 59 more := ⟨_, rfl⟩
 have hsg : segs 59 (jn 59 (pts r) ++ 59 :: ((a ++ 61 :: b) ++ 59 :: more)) = p := by
  rw [segs_app 59 (pts r) _ h3 h4, segs_some h59, hp]
 have hsl := segs_len 59 (jn 59 (pts r) ++ 59 :: ((a ++ 61 :: b) ++ 59 :: more))
 rw [hsg] at hsl
 rw [parse_PA _ hlen, hsg]
 have hpl : ∀ s ∈ p, s.length ≤ 5000 := fun s hs => by have := hsl.2 s hs; omega
 have hrun := run_prefix p (by omega) hpl (pts r) us 0 (0, 1, 0, 0, 0, false, [], [], [], [], [], [], [], [], [], ()) [] ((a ++ 61 :: b) :: segs 59 more) (by rw [List.drop_zero, hp]) h5 (fun u _ => by simp) h6 (Nat.le_refl _)
 rw [hrun, Nat.zero_add, List.nil_append]
 have hlt : (pts r).length < p.length := by rw [hp, List.length_append, List.length_cons]; omega
 have hget : p.getD (pts r).length [] = a ++ 61 :: b := by
  rw [hp, List.getD_eq_getElem?_getD, List.getElem?_append_right (Nat.le_refl _), Nat.sub_self]
  rfl
 have hkl : (keys us).length ≤ (pts r).length := by
  have := All2.length h5
  unfold keys
  rw [List.length_map]
  omega
 obtain ⟨o1, o2⟩ := one_step p (by omega) (pts r).length hlt a b hget ha (by omega) (apAll (0, 1, 0, 0, 0, false, [], [], [], [], [], [], [], [], [], ()) us) (keys us) hkl
 by_cases c : a ∈ keys us
 ·exact o1 c
 ·rw [o2 c]
  rcases hbad with e | hb
  ·exact absurd (e ▸ h7) c
  ·obtain ⟨r1, h⟩ := hb (apAll (0, 1, 0, 0, 0, false, [], [], [], [], [], [], [], [], [], ()) us)
   rw [h]
   rfl
def EASTER : List UInt8 := [66, 89, 69, 65, 83, 84, 69, 82]
theorem easter_bad (r : Rl) : ∃ r1, rule_part.f r (mkS EASTER) (mkS [49]) = some (false, r1, ()) := by
 have key : ∀ u : Up, u.key ≠ EASTER := by
  intro u
  cases u <;> simp [Up.key, EASTER]
 rcases part_up EASTER [49] (by decide) with ⟨u, hk, _⟩ | h
 ·exact absurd hk (key u)
 ·exact h r
theorem RuleNames_pure (r : Rl) (more : ByteArray) : voklaw5_RuleNames.f r more = some (true, ()) := by
 have l1t : voklaw5_RuleNames.l1 more true r.1 r.2.1 r.2.2.1 r.2.2.2.1 r.2.2.2.2.1 r.2.2.2.2.2.1 r.2.2.2.2.2.2.1 r.2.2.2.2.2.2.2.1 r.2.2.2.2.2.2.2.2.1 r.2.2.2.2.2.2.2.2.2.1 r.2.2.2.2.2.2.2.2.2.2.1 r.2.2.2.2.2.2.2.2.2.2.2.1 r.2.2.2.2.2.2.2.2.2.2.2.2.1 r.2.2.2.2.2.2.2.2.2.2.2.2.2.1 r.2.2.2.2.2.2.2.2.2.2.2.2.2.2.1 = some (true, ()) := by rw [voklaw5_RuleNames.l1_eq, cond_true, first_true]; rfl
 obtain ⟨b, hb, hsh⟩ := few_some r
 have hF : vokref_FewRule.f (r.1, r.2.1, r.2.2.1, r.2.2.2.1, r.2.2.2.2.1, r.2.2.2.2.2.1, r.2.2.2.2.2.2.1, r.2.2.2.2.2.2.2.1, r.2.2.2.2.2.2.2.2.1, r.2.2.2.2.2.2.2.2.2.1, r.2.2.2.2.2.2.2.2.2.2.1, r.2.2.2.2.2.2.2.2.2.2.2.1, r.2.2.2.2.2.2.2.2.2.2.2.2.1, r.2.2.2.2.2.2.2.2.2.2.2.2.2.1, r.2.2.2.2.2.2.2.2.2.2.2.2.2.2.1, ()) = some (b, ()) := hb
 rw [voklaw5_RuleNames.f_eq, first_true, hF]
 simp only [Option.bind_some, Bool.not_true, cond_false]
 cases b with
 | false => rw [Bool.not_false, cond_true, l1t]
 | true =>
  have hr := hsh rfl
  rw [Bool.not_true, cond_false]
  by_cases c : (more.size : Int) > 1000
  ·rw [dp c, l1t]
  ·rw [dn c, voklaw5_RuleNames.l1_eq, cond_false]
   have hml : (B more).length ≤ 1000 := by rw [← size_B]; omega
   have l2t : ∀ x : ByteArray, voklaw5_RuleNames.l2 more x true = some (true, ()) := fun x => by rw [voklaw5_RuleNames.l2_eq, cond_true, first_true]; rfl
   obtain ⟨m, hm⟩ := may_some r hr
   cases m with
   | false =>
    have hP : rule_Print.f (r.1, r.2.1, r.2.2.1, r.2.2.2.1, r.2.2.2.2.1, r.2.2.2.2.2.1, r.2.2.2.2.2.2.1, r.2.2.2.2.2.2.2.1, r.2.2.2.2.2.2.2.2.1, r.2.2.2.2.2.2.2.2.2.1, r.2.2.2.2.2.2.2.2.2.2.1, r.2.2.2.2.2.2.2.2.2.2.2.1, r.2.2.2.2.2.2.2.2.2.2.2.2.1, r.2.2.2.2.2.2.2.2.2.2.2.2.2.1, r.2.2.2.2.2.2.2.2.2.2.2.2.2.2.1, ()) = some (mkS [], 1, ()) := print_no r hm
    rw [hP]
    simp (disch := omega) only [ss, cond_true, cond_false, Option.bind_some, l2t]
   | true =>
    obtain ⟨p1, p2, p3, p4, _⟩ := print_ok r hr hm
    have hP : rule_Print.f (r.1, r.2.1, r.2.2.1, r.2.2.2.1, r.2.2.2.2.1, r.2.2.2.2.2.1, r.2.2.2.2.2.2.1, r.2.2.2.2.2.2.2.1, r.2.2.2.2.2.2.2.2.1, r.2.2.2.2.2.2.2.2.2.1, r.2.2.2.2.2.2.2.2.2.2.1, r.2.2.2.2.2.2.2.2.2.2.2.1, r.2.2.2.2.2.2.2.2.2.2.2.2.1, r.2.2.2.2.2.2.2.2.2.2.2.2.2.1, r.2.2.2.2.2.2.2.2.2.2.2.2.2.2.1, ()) = some (mkS (jn 59 (pts r)), 0, ()) := p1
    rw [hP]
    by_cases c2 : ((jn 59 (pts r)).length : Int) > 2000
    ·simp (disch := omega) only [ss, cond_true, cond_false, Option.bind_some, szS, l2t]
    ·have n1 := names_parse r hr hm (by omega) FREQ [68, 65, 73, 76, 89] (B more) (by decide) (by decide) (by decide) hml (.inl rfl)
     have n2 := names_parse r hr hm (by omega) EASTER [49] (B more) (by decide) (by decide) (by decide) hml (.inr easter_bad)
     have hV : vokref_Split.f (mkS (jn 59 (pts r))) 59 = some ((segs 59 (jn 59 (pts r))).map mkS, ()) := vsplit_spec 59 _ (by omega)
     rw [jn_segs 59 _ p3 p4] at hV
     have f1 : (⟨#[59, 70, 82, 69, 81, 61, 68, 65, 73, 76, 89, 59]⟩ : ByteArray) = mkS [59, 70, 82, 69, 81, 61, 68, 65, 73, 76, 89, 59] := rfl
     have f2 : (⟨#[59, 66, 89, 69, 65, 83, 84, 69, 82, 61, 49, 59]⟩ : ByteArray) = mkS [59, 66, 89, 69, 65, 83, 84, 69, 82, 61, 49, 59] := rfl
     have g1 : jn 59 (pts r) ++ [59, 70, 82, 69, 81, 61, 68, 65, 73, 76, 89, 59] ++ B more = jn 59 (pts r) ++ 59 :: ((FREQ ++ 61 :: [68, 65, 73, 76, 89]) ++ 59 :: B more) := by
      rw [List.append_assoc]; rfl
     have g2 : jn 59 (pts r) ++ [59, 66, 89, 69, 65, 83, 84, 69, 82, 61, 49, 59] ++ B more = jn 59 (pts r) ++ 59 :: ((EASTER ++ 61 :: [49]) ++ 59 :: B more) := by
      rw [List.append_assoc]; rfl
     have hmk : more = mkS (B more) := rfl
     have x1 : mkS (jn 59 (pts r)) ++ mkS [59, 70, 82, 69, 81, 61, 68, 65, 73, 76, 89, 59] ++ more = mkS (jn 59 (pts r) ++ 59 :: ((FREQ ++ 61 :: [68, 65, 73, 76, 89]) ++ 59 :: B more)) := by
      rw [← g1, ← mk_app, ← mk_app]; rfl
     have x2 : mkS (jn 59 (pts r)) ++ mkS [59, 66, 89, 69, 65, 83, 84, 69, 82, 61, 49, 59] ++ more = mkS (jn 59 (pts r) ++ 59 :: ((EASTER ++ 61 :: [49]) ++ 59 :: B more)) := by
      rw [← g2, ← mk_app, ← mk_app]; rfl
     have z1 : (mkS (jn 59 (pts r)) ++ mkS [59, 70, 82, 69, 81, 61, 68, 65, 73, 76, 89, 59]).size = (jn 59 (pts r)).length + 12 := by rw [mk_app, szS, List.length_append]; rfl
     have z2 : (mkS (jn 59 (pts r)) ++ mkS [59, 66, 89, 69, 65, 83, 84, 69, 82, 61, 49, 59]).size = (jn 59 (pts r)).length + 12 := by rw [mk_app, szS, List.length_append]; rfl
     have y1 : (mkS [59, 70, 82, 69, 81, 61, 68, 65, 73, 76, 89, 59]).size = 12 := rfl
     have y2 : (mkS [59, 66, 89, 69, 65, 83, 84, 69, 82, 61, 49, 59]).size = 12 := rfl
     simp (disch := omega) only [ss, cond_true, cond_false, Option.bind_some, szS, voklaw5_RuleNames.l2_eq, hV, f1, f2, z1, z2, y1, y2, x1, x2, n1, n2, first_true, List.length_map]
end Go.GV.YtkkfgajlnpcpcaaGreatDoor
