/-
Part of the words that RuleLists is proved with: no statement of its own, no conditions.
-/
import Derived.Test.YtkkfgajlnpcpcaaGreatDoorZ13
set_option linter.unusedVariables false
set_option linter.unusedSimpArgs false
namespace Go.GV.YtkkfgajlnpcpcaaGreatDoor
open Go.Proofs
def txt : List Int → List UInt8
 | [] => []
 | [n] => Lib.itoa n
 | n :: m :: l => Lib.itoa n ++ 44 :: txt (m :: l)
theorem itoa_chr {n : Int} : ∀ c ∈ Lib.itoa n, c = 45 ∨ dig c := by
 intro c hc
 by_cases hn : n < 0
 ·rw [itoa_neg hn] at hc
  rcases List.mem_cons.1 hc with h | h
  ·exact .inl h
  ·exact .inr (D_dig _ c h)
 ·rw [itoa_pos hn] at hc
  exact .inr (D_dig _ c hc)
theorem itoa_no {n : Int} {c : UInt8} (h1 : c ≠ 45) (h2 : ¬ dig c) : c ∉ Lib.itoa n := fun h => (itoa_chr c h).elim h1 h2
theorem txt_snoc : ∀ (l : List Int) (n : Int), txt (l ++ [n]) = if l = [] then Lib.itoa n else txt l ++ 44 :: Lib.itoa n
 | [], n => rfl
 | [m], n => rfl
 | m :: k :: l, n => by
  have ih := txt_snoc (k :: l) n
  rw [if_neg (by simp)] at ih
  rw [if_neg (by simp)]
  show Lib.itoa m ++ 44 :: txt (k :: l ++ [n]) = (Lib.itoa m ++ 44 :: txt (k :: l)) ++ 44 :: Lib.itoa n
  rw [ih]
  simp
theorem txt_segs : ∀ (l : List Int), l ≠ [] → segs 44 (txt l) = l.map Lib.itoa
 | [], h => absurd rfl h
 | [n], _ => segs_none (itoa_no (by decide) (by unfold dig; decide))
 | n :: m :: l, _ => by
  show segs 44 (Lib.itoa n ++ 44 :: txt (m :: l)) = _
  rw [segs_some (itoa_no (by decide) (by unfold dig; decide)), txt_segs (m :: l) (by simp)]
  rfl
theorem txt_no {c : UInt8} (h1 : c ≠ 45) (h2 : ¬ dig c) (h3 : c ≠ 44) : ∀ (l : List Int), c ∉ txt l
 | [] => by simp [txt]
 | [n] => itoa_no h1 h2
 | n :: m :: l => by
  show c ∉ Lib.itoa n ++ 44 :: txt (m :: l)
  rw [List.mem_append, List.mem_cons]
  rintro (h | h | h)
  ·exact itoa_no h1 h2 h
  ·exact h3 h
  ·exact txt_no h1 h2 h3 _ h
theorem txt_len : ∀ (l : List Int), (∀ n ∈ l, -999999999 ≤ n ∧ n ≤ 999999999) → (txt l).length ≤ 22 * l.length
 | [], _ => Nat.le_refl _
 | [n], h => by
  have := itoa_bound (n := n) (by have := h n (by simp); omega) (by have := h n (by simp); omega)
  simp [txt]
  omega
 | n :: m :: l, h => by
  have h1 := itoa_bound (n := n) (by have := h n (by simp); omega) (by have := h n (by simp); omega)
  have h2 := txt_len (m :: l) fun x hx => h x (List.mem_cons_of_mem _ hx)
  show (Lib.itoa n ++ 44 :: txt (m :: l)).length ≤ _
  simp at h2 ⊢
  omega
theorem all_isN : ∀ (l : List Int), (∀ n ∈ l, -999999999 ≤ n ∧ n ≤ 999999999) → All2 isN (l.map Lib.itoa) l
 | [], _ => trivial
 | n :: l, h => ⟨⟨rfl, h n (by simp)⟩, all_isN l fun x hx => h x (List.mem_cons_of_mem _ hx)⟩
def MD : List UInt8 := [66, 89, 77, 79, 78, 84, 72, 68, 65, 89]
def preT : List UInt8 := [70, 82, 69, 81, 61, 89, 69, 65, 82, 76, 89, 59, 66, 89, 77, 79, 78, 84, 72, 68, 65, 89, 61]
def goodN (n : Int) : Bool := !(decide (n < -31) || decide (n > 31) || decide (n = 0))
theorem lists_parse (l : List Int) (h0 : l ≠ []) (h60 : l.length ≤ 60) (hb : ∀ n ∈ l, -999999999 ≤ n ∧ n ≤ 999999999) :
  ∃ r : List Int, rises r ∧ r.length ≤ 60 ∧ (∀ x, x ∈ r ↔ x ∈ l) ∧
   ((∀ n ∈ l, goodN n = true) → rule_Parse.f (mkS (preT ++ txt l)) = some ((1, 1, 0, 0, 0, false, [], [], [], r, [], [], [], [], [], ()), 0, 0, ())) ∧
   (¬ (∀ n ∈ l, goodN n = true) → rule_Parse.f (mkS (preT ++ txt l)) = some (zR, 0, 1, ())) := by
 have hlim : limit = 17179869184 := rfl
 have htl := txt_len l hb
 have hlen : (preT ++ txt l).length = 23 + (txt l).length := by rw [List.length_append]; rfl
 have n59 : (59 : UInt8) ∉ txt l := txt_no (by decide) (by unfold dig; decide) (by decide) l
 have sg : segs 59 (preT ++ txt l) = [[70, 82, 69, 81, 61, 89, 69, 65, 82, 76, 89], MD ++ 61 :: txt l] := by
  have e : preT ++ txt l = [70, 82, 69, 81, 61, 89, 69, 65, 82, 76, 89] ++ 59 :: (MD ++ 61 :: txt l) := rfl
  rw [e, segs_some (by decide), segs_none]
  rw [List.mem_append, List.mem_cons]
  rintro (h | h | h)
  ·exact absurd h (by decide)
  ·exact absurd h (by decide)
  ·exact n59 h
 have hS : strings_Split.f (mkS (preT ++ txt l)) ⟨#[59]⟩ = some (([[70, 82, 69, 81, 61, 89, 69, 65, 82, 76, 89], MD ++ 61 :: txt l]).map mkS, ()) := by
  have := split_one (c := 59) (preT ++ txt l) (by omega)
  rw [sg] at this
  exact this
 have hL : ∃ r, (rises r ∧ r.length ≤ 60 ∧ ∀ x, x ∈ r ↔ x ∈ l) ∧ rule_list.f (mkS (txt l)) = some (r, true, ()) := by
  rcases list_spec (txt l) (by omega) with ⟨r, hr, e, _⟩ | ⟨hno, _⟩
  ·obtain ⟨⟨q1, q2⟩, ns, q3, q4, q5⟩ := hr
   rw [txt_segs l h0] at q3
   have : ∀ (a : List (List UInt8)) (b c : List Int), All2 isN a b → All2 isN a c → b = c := by
    intro a
    induction a with
    | nil => intro b c h g; cases b <;> cases c <;> first | rfl | exact h.elim | exact g.elim
    | cons s a ih =>
     intro b c h g
     cases b with
     | nil => exact h.elim
     | cons x b =>
      cases c with
      | nil => exact g.elim
      | cons y c => rw [isN_uniq h.1 g.1, ih b c h.2 g.2]
   have e2 := this _ _ _ q3 (all_isN l hb)
   subst e2
   exact ⟨r, ⟨q1, q2, q5⟩, e⟩
  ·obtain ⟨q, _, h8, h9⟩ := Sorted_spec l (by omega)
   obtain ⟨r, h3, h4, h5, h6⟩ := sorted_dds (y := l) (by omega)
   exact absurd ⟨⟨h5, by have := dds_len r; omega⟩, l, by rw [txt_segs l h0]; exact all_isN l hb, h60, h6⟩ (hno (dds r))
 obtain ⟨r, ⟨hr1, hr2, hr3⟩, hrl⟩ := hL
 have p1 : rule_part.f (0, 1, 0, 0, 0, false, [], [], [], [], [], [], [], [], [], ()) (mkS [70, 82, 69, 81]) (mkS [89, 69, 65, 82, 76, 89]) = some (true, (1, 1, 0, 0, 0, false, [], [], [], [], [], [], [], [], [], ()), ()) := by
  have e0 : (⟨#[70, 82, 69, 81]⟩ : ByteArray) = mkS [70, 82, 69, 81] := rfl
  have hI := index_spec fw [89, 69, 65, 82, 76, 89] (by decide)
  have hp : posF 0 fw [89, 69, 65, 82, 76, 89] = 0 := rfl
  rw [rule_part.f_eq]
  simp (disch := decide) only [beq_S, e0, dm, dp, cond_true]
  simp only [words_eq, hI, hp, Option.bind_some]
  rfl
 have p2 : rule_part.f (1, 1, 0, 0, 0, false, [], [], [], [], [], [], [], [], [], ()) (mkS MD) (mkS (txt l)) = some (true, (1, 1, 0, 0, 0, false, [], [], [], r, [], [], [], [], [], ()), ()) := by
  have e0 : (⟨#[70, 82, 69, 81]⟩ : ByteArray) = mkS [70, 82, 69, 81] := rfl
  have e1 : (⟨#[73, 78, 84, 69, 82, 86, 65, 76]⟩ : ByteArray) = mkS [73, 78, 84, 69, 82, 86, 65, 76] := rfl
  have e2 : (⟨#[67, 79, 85, 78, 84]⟩ : ByteArray) = mkS [67, 79, 85, 78, 84] := rfl
  have e3 : (⟨#[85, 78, 84, 73, 76]⟩ : ByteArray) = mkS [85, 78, 84, 73, 76] := rfl
  have e4 : (⟨#[66, 89, 68, 65, 89]⟩ : ByteArray) = mkS [66, 89, 68, 65, 89] := rfl
  have e5 : (⟨#[87, 75, 83, 84]⟩ : ByteArray) = mkS [87, 75, 83, 84] := rfl
  have e6 : (⟨#[66, 89, 77, 79, 78, 84, 72]⟩ : ByteArray) = mkS [66, 89, 77, 79, 78, 84, 72] := rfl
  have e7 : (⟨#[66, 89, 87, 69, 69, 75, 78, 79]⟩ : ByteArray) = mkS [66, 89, 87, 69, 69, 75, 78, 79] := rfl
  have e8 : (⟨#[66, 89, 89, 69, 65, 82, 68, 65, 89]⟩ : ByteArray) = mkS [66, 89, 89, 69, 65, 82, 68, 65, 89] := rfl
  have e9 : (⟨#[66, 89, 77, 79, 78, 84, 72, 68, 65, 89]⟩ : ByteArray) = mkS [66, 89, 77, 79, 78, 84, 72, 68, 65, 89] := rfl
  rw [rule_part.f_eq]
  unfold MD
  simp (disch := decide) only [beq_S, e0, e1, e2, e3, e4, e5, e6, e7, e8, e9, dm, dp, dn, cond_true, cond_false]
  rw [rule_part.l1c_eq, hrl]
  rfl
 have c1 : strings_Cut.f (mkS [70, 82, 69, 81, 61, 89, 69, 65, 82, 76, 89]) ⟨#[61]⟩ = some (mkS [70, 82, 69, 81], mkS [89, 69, 65, 82, 76, 89], true, ()) := cut_some (c := 61) (a := [70, 82, 69, 81]) (b := [89, 69, 65, 82, 76, 89]) (by decide) (by decide)
 have c2 : strings_Cut.f (mkS (MD ++ 61 :: txt l)) ⟨#[61]⟩ = some (mkS MD, mkS (txt l), true, ()) := cut_some (c := 61) (by simp [MD]; omega) (by decide)
 have k0 := contains_spec [] [70, 82, 69, 81] (by decide)
 have k1 := contains_spec [[70, 82, 69, 81]] MD (by decide)
 have k2 : slices_Contains_string_string.f [mkS [70, 82, 69, 81], mkS MD] ⟨#[70, 82, 69, 81]⟩ = some (true, ()) := contains_spec [[70, 82, 69, 81], MD] FREQ (by decide)
 have hM : rule_May.f (1, 1, 0, 0, 0, false, [], [], [], r, [], [], [], [], [], ()) = some (decide (∀ n ∈ l, goodN n = true), ()) := by
  have g1 := may_gate 1 1 0 0 0 false [] [] [] r [] [] [] [] [] (by unfold short; simp; omega)
  have l7 : rule_May.l5 1 1 0 0 0 false [] [] [] r [] [] [] [] [] = some (true, ()) := by
   rw [rule_May.l5_eq]
   simp only [List.length_nil]
   simp (disch := omega) only [ss, cond_true, cond_false, Option.bind_some, rule_May.l6_eq, rule_May.l7_eq, mm_max]
   rfl
  rw [l7] at g1
  have hw : wi r (-31) 31 false ↔ ∀ n ∈ l, goodN n = true := by
   constructor
   ·intro h n hn
    obtain ⟨j, hj, e⟩ := List.getElem_of_mem ((hr3 n).2 hn)
    have h1 := (h.1 j hj).1
    unfold okI at h1
    rw [getD_eq 0 hj, e] at h1
    unfold goodN
    have h2 : n ≠ 0 := fun q => by have := h1.2.2 q; cases this
    simp (disch := omega) only [ss, cond_true, cond_false, Option.bind_some]
   ·intro h
    refine ⟨fun j hj => ⟨?_, fun h0 => ?_⟩, hr2⟩
    ·have h1 := h _ ((hr3 _).1 (getD_mem' 0 hj))
     unfold goodN at h1
     simp at h1
     rw [← List.getD_eq_getElem?_getD] at h1
     unfold okI
     exact ⟨by omega, by omega, fun q => by omega⟩
    ·rw [getD_eq 0 hj, getD_eq 0 (show j - 1 < r.length by omega)]
     exact List.pairwise_iff_getElem.1 hr1 (j - 1) j (by omega) hj (by omega)
  have hmay : mayP 1 1 0 0 0 false [] [] [] r [] [] [] [] [] ↔ wi r (-31) 31 false := by
   have nilw : ∀ lo hi z, wi [] lo hi z := fun lo hi z => ⟨fun j hj => by simp at hj, by simp⟩
   have nild : dwi [] := ⟨fun j hj => by simp at hj, by simp⟩
   unfold mayP numP listsP
   constructor
   ·exact fun h => h.2.1.2.2.2.1
   ·intro h
    refine ⟨⟨by omega, (fun q => by cases q), fun _ => rfl⟩, ⟨nilw _ _ _, nilw _ _ _, nilw _ _ _, h, nilw _ _ _, nilw _ _ _, nilw _ _ _, nilw _ _ _, nild, fun j hj => by simp at hj⟩, by simp, by simp, fun _ => by decide⟩
  by_cases hg : ∀ n ∈ l, goodN n = true
  ·rw [g1.1 (hmay.2 (hw.2 hg)), dp hg]
  ·rw [g1.2 fun q => hg (hw.1 (hmay.1 q)), dn hg]
 have run : rule_Parse.f (mkS (preT ++ txt l)) = bif !decide (∀ n ∈ l, goodN n = true) then some (zR, 0, 1, ()) else some ((1, 1, 0, 0, 0, false, [], [], [], r, [], [], [], [], [], ()), 0, 0, ()) := by
  have d0 : decide (([70, 82, 69, 81] : List UInt8) ∈ ([] : List (List UInt8))) = false := rfl
  have d1 : decide (MD ∈ [([70, 82, 69, 81] : List UInt8)]) = false := rfl
  rw [d0] at k0
  rw [d1] at k1
  have k0 : slices_Contains_string_string.f [] (mkS [70, 82, 69, 81]) = some (false, ()) := k0
  have k1 : slices_Contains_string_string.f [mkS [70, 82, 69, 81]] (mkS MD) = some (false, ()) := k1
  have q0 : ([mkS [70, 82, 69, 81, 61, 89, 69, 65, 82, 76, 89], mkS (MD ++ 61 :: txt l)] : List ByteArray).getD 0 ByteArray.empty = mkS [70, 82, 69, 81, 61, 89, 69, 65, 82, 76, 89] := rfl
  have q1 : ([mkS [70, 82, 69, 81, 61, 89, 69, 65, 82, 76, 89], mkS (MD ++ 61 :: txt l)] : List ByteArray).getD 1 ByteArray.empty = mkS (MD ++ 61 :: txt l) := rfl
  have t01 : (0 + 1 : Int).toNat = 1 := rfl
  rw [rule_Parse.f_eq]
  simp (disch := omega) only [ss, cond_true, cond_false, Option.bind_some, szS, hS, List.map_cons, List.map_nil, List.length_cons, List.length_nil]
  rw [rule_Parse.l1_eq]
  simp (disch := omega) only [ss, cond_true, cond_false, Option.bind_some, List.length_cons, List.length_nil, t01, q0, c1, k0, p1, rule_Parse.l2a_eq, hlim, List.nil_append]
  rw [rule_Parse.l1a_eq]
  simp (disch := omega) only [ss, cond_true, cond_false, Option.bind_some, List.length_cons, List.length_nil, t01, q1, c2, k1, p2, rule_Parse.l2a_eq, hlim, List.cons_append, List.nil_append]
  rw [rule_Parse.l1a_eq]
  simp (disch := omega) only [ss, cond_true, cond_false, Option.bind_some, List.length_cons, List.length_nil, k2, hM]
  rfl
 refine ⟨r, hr1, hr2, hr3, fun hg => ?_, fun hg => ?_⟩
 ·rw [run, dp hg]
  rfl
 ·rw [run, dn hg]
  rfl
theorem lists_l2 (l : List Int) (h0 : l ≠ []) (h60 : l.length ≤ 60) : ∀ (k i : Nat) (good : Bool), l.length - i = k → i ≤ l.length →
  (∀ n ∈ l.take i, -999999999 ≤ n ∧ n ≤ 999999999) → (good = true ↔ ∀ n ∈ l.take i, goodN n = true) →
  voklaw5_RuleLists.l2 l (mkS (preT ++ txt (l.take i))) good (i : Int) = some (true, ()) := by
 intro k
 induction k with
 | zero =>
  intro i good hk hi hb hg
  have ht : l.take i = l := List.take_of_length_le (by omega)
  rw [ht] at hb hg
  rw [ht, voklaw5_RuleLists.l2_eq]
  obtain ⟨r, r1, r2, r3, r4, r5⟩ := lists_parse l h0 h60 hb
  cases good with
  | true =>
   obtain ⟨r', s1, s2, s3⟩ := Sorted_spec l (by omega)
   have e : r = r' := rises_uniq r1 s2 fun x => (r3 x).trans (s3 x).symm
   subst e
   simp (disch := omega) only [ss, cond_true, cond_false, Option.bind_some, r4 (hg.1 rfl), first_true, s1, ints_same r (by omega)]
  | false =>
   have hn : ¬ (∀ n ∈ l, goodN n = true) := fun q => by have := hg.2 q; cases this
   simp (disch := omega) only [ss, cond_true, cond_false, Option.bind_some, r5 hn, first_true]
 | succ k ih =>
  intro i good hk hi hb hg
  have hlt : i < l.length := by omega
  have hn : l.take (i + 1) = l.take i ++ [l.getD i 0] := by
   rw [List.take_add_one, List.getD_eq_getElem?_getD, List.getElem?_eq_getElem hlt]
   rfl
  have key : ∀ good' : Bool, good' = (good && goodN (l.getD i 0)) → voklaw5_RuleLists.l4 l (mkS (preT ++ txt (l.take i))) good' (i : Int) = some (true, ()) := by
   intro good' hg'
   have ihn := ih (i + 1) good' (by omega) (by omega)
   have htl := txt_len (l.take i) hb
   have htk : (l.take i).length = i := by rw [List.length_take]; omega
   rw [voklaw5_RuleLists.l4_eq]
   by_cases h1 : l.getD i 0 < -999999999
   ·simp (disch := omega) only [ss, cond_true, cond_false, Option.bind_some, voklaw5_RuleLists.l5_eq, first_true]
   by_cases h2 : l.getD i 0 > 999999999
   ·simp (disch := omega) only [ss, cond_true, cond_false, Option.bind_some, voklaw5_RuleLists.l5_eq, first_true]
   have hd := dec_spec (l.getD i 0) (by omega) (by omega)
   have hdl := itoa_bound (n := l.getD i 0) (by omega) (by omega)
   have ihn := ihn (by
    rw [hn]
    intro n hx
    rcases List.mem_append.1 hx with q | q
    ·exact hb n q
    ·rw [List.mem_singleton] at q
     subst q
     omega) (by
    rw [hn, hg', Bool.and_eq_true, hg]
    constructor
    ·intro q n hx
     rcases List.mem_append.1 hx with w | w
     ·exact q.1 n w
     ·rw [List.mem_singleton] at w
      rw [w]
      exact q.2
    ·intro q
     exact ⟨fun n hx => q n (List.mem_append_left _ hx), q _ (List.mem_append_right _ (List.mem_singleton.2 rfl))⟩)
   rw [hn, txt_snoc] at ihn
   have hc : (⟨#[44]⟩ : ByteArray) = mkS [44] := rfl
   by_cases hz : i = 0
   ·subst hz
    rw [if_pos (by simp)] at ihn
    have e : preT ++ txt (l.take 0) = preT := by simp [txt]
    rw [e]
    have hp : preT.length = 23 := rfl
    simp (disch := omega) only [ss, cond_true, cond_false, Option.bind_some, voklaw5_RuleLists.l5_eq, voklaw5_RuleLists.l6_eq, hd, szS, hp, mk_app]
    exact ihn
   ·rw [if_neg (by intro q; rw [q] at htk; simp at htk; omega)] at ihn
    have hp : (preT ++ txt (l.take i)).length = 23 + (txt (l.take i)).length := by rw [List.length_append]; rfl
    simp (disch := omega) only [ss, cond_true, cond_false, Option.bind_some, voklaw5_RuleLists.l5_eq, voklaw5_RuleLists.l6_eq, hd, szS, hp, hc, mk_app, List.length_append, List.length_singleton]
    rw [show preT ++ txt (l.take i) ++ [44] ++ Lib.itoa (l.getD i 0) = preT ++ (txt (l.take i) ++ 44 :: Lib.itoa (l.getD i 0)) by simp]
    exact ihn
  rw [voklaw5_RuleLists.l2_eq]
  have kt := key
  unfold goodN at kt
  by_cases h1 : l.getD i 0 < -31
  ·have kt := kt false (by rw [dp h1]; simp)
   simp (disch := omega) only [ss, cond_true, cond_false, Option.bind_some, voklaw5_RuleLists.l3_eq]
   exact kt
  by_cases h2 : l.getD i 0 > 31
  ·have kt := kt false (by rw [dp h2]; simp)
   simp (disch := omega) only [ss, cond_true, cond_false, Option.bind_some, voklaw5_RuleLists.l3_eq]
   exact kt
  by_cases h3 : l.getD i 0 = 0
  ·have kt := kt false (by rw [dp h3]; simp)
   simp (disch := omega) only [ss, cond_true, cond_false, Option.bind_some, voklaw5_RuleLists.l3_eq]
   exact kt
  ·have kt := kt good (by rw [dn h1, dn h2, dn h3]; simp)
   simp (disch := omega) only [ss, cond_true, cond_false, Option.bind_some, voklaw5_RuleLists.l3_eq]
   exact kt
theorem RuleLists_pure (l : List Int) : voklaw5_RuleLists.f l = some (true, ()) := by
 rw [voklaw5_RuleLists.f_eq, first_true]
 by_cases h0 : l.length = 0
 ·simp (disch := omega) only [ss, cond_true, cond_false, Option.bind_some, voklaw5_RuleLists.l1_eq, first_true]
 by_cases h60 : l.length > 60
 ·simp (disch := omega) only [ss, cond_true, cond_false, Option.bind_some, voklaw5_RuleLists.l1_eq, first_true]
 have h := lists_l2 l (by intro q; rw [q] at h0; exact h0 rfl) (by omega) l.length 0 true (by omega) (by omega) (by intro n hn; rw [List.take_zero] at hn; cases hn) (by rw [List.take_zero]; exact ⟨fun _ n hn => absurd hn (by simp), fun _ => rfl⟩)
 simp (disch := omega) only [ss, cond_true, cond_false, Option.bind_some, voklaw5_RuleLists.l1_eq]
 exact h
end Go.GV.YtkkfgajlnpcpcaaGreatDoor
