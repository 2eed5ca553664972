/-
What may be a rule: the document's words; both are one. (This session's own text.)
-/
import Derived.Test.YtkkfgajlnpcpcaaGreatDoorRlMayR
set_option linter.unusedVariables false
set_option linter.unusedSimpArgs false
namespace Go.GV.YtkkfgajlnpcpcaaGreatDoor
open Go.Proofs
theorem gate_if {f1 f2 K : Option (Bool × Unit)} {c : Prop} [Decidable c] {p q : Prop} (h1 : c → Gate f1 (p ∧ q) K) (h2 : ¬ c → Gate f2 (p ∧ q) K) : Gate (bif decide c then f1 else f2) (p ∧ q) K := by
  by_cases h : c
  · rw [dp h, cond_true]; exact h1 h
  · rw [dn h, cond_false]; exact h2 h
theorem gate_no {K : Option (Bool × Unit)} {p : Prop} (h : ¬ p) : Gate (some (false, ())) p K := ⟨fun q => absurd q h, fun _ => rfl⟩
theorem wi_one (l : List Int) (hi : Int) (z : Bool) : wi l 1 hi z ↔ wi l 1 hi false := by
  unfold wi
  constructor
  · exact fun h => ⟨fun j hj => ⟨⟨(h.1 j hj).1.1, (h.1 j hj).1.2.1, fun q => by have := (h.1 j hj).1.1; omega⟩, (h.1 j hj).2⟩, h.2⟩
  · exact fun h => ⟨fun j hj => ⟨⟨(h.1 j hj).1.1, (h.1 j hj).1.2.1, fun q => by have := (h.1 j hj).1.1; omega⟩, (h.1 j hj).2⟩, h.2⟩
section
variable (f iv ct un wk : Int) (en : Bool) (mo we yd md : List Int) (dy : List Dy) (ho mi se po : List Int)
theorem vgate (h : short mo we yd md dy ho mi se po) : Gate (vokref4_May.f (f, iv, ct, un, wk, en, mo, we, yd, md, dy, ho, mi, se, po, ())) (mayP f iv ct un wk en mo we yd md dy ho mi se po) (vokref4_May.l8 f iv ct un wk en mo we yd md dy ho mi se po) := by
  obtain ⟨h1, h2, h3, h4, h5, h6, h7, h8, h9⟩ := h
  have l1t : vokref4_May.l1 true f iv ct un wk en mo we yd md dy ho mi se po = some (false, ()) := by rw [vokref4_May.l1_eq, cond_true]
  have l2t : vokref4_May.l2 true f iv ct un wk en mo we yd md dy ho mi se po = some (false, ()) := by rw [vokref4_May.l2_eq, cond_true]
  have l2f : vokref4_May.l2 false f iv ct un wk en mo we yd md dy ho mi se po = vokref4_May.l3 f iv ct un wk en mo we yd md dy ho mi se po := by rw [vokref4_May.l2_eq, cond_false]
  have l4t : vokref4_May.l4 true f iv ct un wk en mo we yd md dy ho mi se po = some (false, ()) := by rw [vokref4_May.l4_eq, cond_true]
  have l5t : vokref4_May.l5 true f iv ct un wk en mo we yd md dy ho mi se po = some (false, ()) := by rw [vokref4_May.l5_eq, cond_true]
  have l5f : vokref4_May.l5 false f iv ct un wk en mo we yd md dy ho mi se po = vokref4_May.l6 f iv ct un wk en mo we yd md dy ho mi se po := by rw [vokref4_May.l5_eq, cond_false]
  have l7t : vokref4_May.l7 true f iv ct un wk en mo we yd md dy ho mi se po = some (false, ()) := by rw [vokref4_May.l7_eq, cond_true]
  have l7f : vokref4_May.l7 false f iv ct un wk en mo we yd md dy ho mi se po = vokref4_May.l8 f iv ct un wk en mo we yd md dy ho mi se po := by rw [vokref4_May.l7_eq, cond_false]
  -- numbered days
  have g6 : Gate (vokref4_May.l6 f iv ct un wk en mo we yd md dy ho mi se po) (∀ j, j < dy.length → numd f we dy j) (vokref4_May.l8 f iv ct un wk en mo we yd md dy ho mi se po) := by
    rw [vokref4_May.l6_eq]
    obtain ⟨b, e1, e2⟩ := vnumb_spec dy (by omega)
    rw [e1]
    simp only [Option.bind_some]
    cases b with
    | false =>
      rw [cond_false, l7f]
      have : ∀ j, j < dy.length → numd f we dy j := fun j hj hn => absurd (e2.2 ⟨j, hj, hn⟩) (by simp)
      exact ⟨fun _ => rfl, fun q => absurd this q⟩
    | true =>
      obtain ⟨j, hj, hn⟩ := e2.1 rfl
      rw [cond_true]
      by_cases c2 : f = 2
      · simp (disch := omega) only [dp, dn, decide_true, decide_false, cond_true, cond_false, Bool.not_true, Bool.not_false, Bool.true_and, Bool.false_and, Bool.and_true, Bool.and_false, Bool.true_or, Bool.false_or, Bool.or_true, Bool.or_false, wr, Option.bind_some, tn_add, tn_add1, tn_sub1, tn_0, tn_1, Int.toNat_natCast, l7f]
        exact ⟨fun _ => rfl, fun q => absurd (fun _ _ _ => .inl c2) q⟩
      · by_cases c3 : f = 1
        · by_cases c4 : (we.length : Int) > 0
          · simp (disch := omega) only [dp, dn, decide_true, decide_false, cond_true, cond_false, Bool.not_true, Bool.not_false, Bool.true_and, Bool.false_and, Bool.and_true, Bool.and_false, Bool.true_or, Bool.false_or, Bool.or_true, Bool.or_false, wr, Option.bind_some, tn_add, tn_add1, tn_sub1, tn_0, tn_1, Int.toNat_natCast, l7t]
            exact gate_no fun q => by rcases q j hj hn with q | q <;> omega
          · simp (disch := omega) only [dp, dn, decide_true, decide_false, cond_true, cond_false, Bool.not_true, Bool.not_false, Bool.true_and, Bool.false_and, Bool.and_true, Bool.and_false, Bool.true_or, Bool.false_or, Bool.or_true, Bool.or_false, wr, Option.bind_some, tn_add, tn_add1, tn_sub1, tn_0, tn_1, Int.toNat_natCast, l7f]
            exact ⟨fun _ => rfl, fun q => absurd (fun _ _ _ => .inr ⟨c3, by omega⟩) q⟩
        · simp (disch := omega) only [dp, dn, decide_true, decide_false, cond_true, cond_false, Bool.not_true, Bool.not_false, Bool.true_and, Bool.false_and, Bool.and_true, Bool.and_false, Bool.true_or, Bool.false_or, Bool.or_true, Bool.or_false, wr, Option.bind_some, tn_add, tn_add1, tn_sub1, tn_0, tn_1, Int.toNat_natCast, l7t]
          exact gate_no fun q => by rcases q j hj hn with q | q <;> omega
  -- which lists at which frequency
  have g4 : Gate (vokref4_May.l4 false f iv ct un wk en mo we yd md dy ho mi se po) (((0 < we.length → f = 1) ∧ (0 < yd.length → ¬ (2 ≤ f ∧ f ≤ 4)) ∧ (0 < md.length → f ≠ 3)) ∧ ∀ j, j < dy.length → numd f we dy j) (vokref4_May.l8 f iv ct un wk en mo we yd md dy ho mi se po) := by
    have hm : ((0 < we.length → f = 1) ∧ (0 < yd.length → ¬ (2 ≤ f ∧ f ≤ 4))) → Gate (bif decide ((md.length : Int) > 0) then (vokref4_May.l5 (decide (f = 3)) f iv ct un wk en mo we yd md dy ho mi se po) else (vokref4_May.l5 false f iv ct un wk en mo we yd md dy ho mi se po)) (((0 < we.length → f = 1) ∧ (0 < yd.length → ¬ (2 ≤ f ∧ f ≤ 4)) ∧ (0 < md.length → f ≠ 3)) ∧ ∀ j, j < dy.length → numd f we dy j) (vokref4_May.l8 f iv ct un wk en mo we yd md dy ho mi se po) := fun hh => by
      by_cases c : (md.length : Int) > 0
      · rw [dp c, cond_true]
        by_cases c2 : f = 3
        · rw [dp c2, l5t]
          exact gate_no fun q => q.1.2.2 (by omega) c2
        · rw [dn c2, l5f]
          exact g6.iff ⟨fun q => ⟨⟨hh.1, hh.2, fun _ => c2⟩, q⟩, fun q => q.2⟩
      · rw [dn c, cond_false, l5f]
        exact g6.iff ⟨fun q => ⟨⟨hh.1, hh.2, fun x => by omega⟩, q⟩, fun q => q.2⟩
    have hy : (0 < we.length → f = 1) → Gate (bif decide ((yd.length : Int) > 0) then (bif decide (f ≥ 2) then (bif decide (f ≤ 4) then (vokref4_May.l5 true f iv ct un wk en mo we yd md dy ho mi se po) else (bif decide ((md.length : Int) > 0) then (vokref4_May.l5 (decide (f = 3)) f iv ct un wk en mo we yd md dy ho mi se po) else (vokref4_May.l5 false f iv ct un wk en mo we yd md dy ho mi se po))) else (bif decide ((md.length : Int) > 0) then (vokref4_May.l5 (decide (f = 3)) f iv ct un wk en mo we yd md dy ho mi se po) else (vokref4_May.l5 false f iv ct un wk en mo we yd md dy ho mi se po))) else (bif decide ((md.length : Int) > 0) then (vokref4_May.l5 (decide (f = 3)) f iv ct un wk en mo we yd md dy ho mi se po) else (vokref4_May.l5 false f iv ct un wk en mo we yd md dy ho mi se po))) (((0 < we.length → f = 1) ∧ (0 < yd.length → ¬ (2 ≤ f ∧ f ≤ 4)) ∧ (0 < md.length → f ≠ 3)) ∧ ∀ j, j < dy.length → numd f we dy j) (vokref4_May.l8 f iv ct un wk en mo we yd md dy ho mi se po) := fun hh => by
      by_cases c : (yd.length : Int) > 0
      · rw [dp c, cond_true]
        by_cases c2 : f ≥ 2
        · rw [dp c2, cond_true]
          by_cases c3 : f ≤ 4
          · rw [dp c3, cond_true, l5t]
            exact gate_no fun q => q.1.2.1 (by omega) ⟨by omega, c3⟩
          · rw [dn c3, cond_false]
            exact hm ⟨hh, fun _ => by omega⟩
        · rw [dn c2, cond_false]
          exact hm ⟨hh, fun _ => by omega⟩
      · rw [dn c, cond_false]
        exact hm ⟨hh, fun x => by omega⟩
    rw [vokref4_May.l4_eq, cond_false]
    by_cases c : (we.length : Int) > 0
    · rw [dp c, cond_true]
      by_cases c2 : f = 1
      · rw [dp c2, Bool.not_true, cond_false]
        exact hy fun _ => c2
      · rw [dn c2, Bool.not_false, cond_true, l5t]
        exact gate_no fun q => c2 (q.1.1 (by omega))
    · rw [dn c, cond_false]
      exact hy fun x => by omega
  -- lists
  have g3 : Gate (vokref4_May.l3 f iv ct un wk en mo we yd md dy ho mi se po) (wi mo 1 12 true ∧ wi we (-53) 53 false ∧ wi yd (-366) 366 false ∧ wi md (-31) 31 false ∧ wi po (-366) 366 false ∧ wi ho 0 23 true ∧ wi mi 0 59 true ∧ wi se 0 59 true ∧ dwi dy ∧ (((0 < we.length → f = 1) ∧ (0 < yd.length → ¬ (2 ≤ f ∧ f ≤ 4)) ∧ (0 < md.length → f ≠ 3)) ∧ ∀ j, j < dy.length → numd f we dy j)) (vokref4_May.l8 f iv ct un wk en mo we yd md dy ho mi se po) := by
    have hlast : ∀ {q : Prop}, Gate (vokref4_May.l4 false f iv ct un wk en mo we yd md dy ho mi se po) q (vokref4_May.l8 f iv ct un wk en mo we yd md dy ho mi se po) → Gate ((vokref4_dayList.f dy).bind fun t10 => vokref4_May.l4 (!t10.1) f iv ct un wk en mo we yd md dy ho mi se po) (dwi dy ∧ q) (vokref4_May.l8 f iv ct un wk en mo we yd md dy ho mi se po) := fun {q} hq => by
      have := gate_and (vdl_spec dy (by omega)) hq
      obtain ⟨b, e1, _⟩ := vdl_spec dy (by omega)
      rw [e1] at this ⊢
      simp only [Option.bind_some] at this ⊢
      cases b with
      | true => exact this
      | false => rw [Bool.not_false, l4t]; exact this
    rw [vokref4_May.l3_eq]
    simp only [l4t]
    exact gate_and (vwithin_spec mo 1 12 true (by omega)) (gate_and (vwithin_spec we (-53) 53 false (by omega)) (gate_and (vwithin_spec yd (-366) 366 false (by omega)) (gate_and (vwithin_spec md (-31) 31 false (by omega)) (gate_and (vwithin_spec po (-366) 366 false (by omega)) (gate_and (vwithin_spec ho 0 23 true (by omega)) (gate_and (vwithin_spec mi 0 59 true (by omega)) (gate_and (vwithin_spec se 0 59 true (by omega)) (hlast g4))))))))
  have g3' := g3.iff (q := listsP f mo we yd md dy ho mi se po ∧ (0 < we.length → f = 1) ∧ (0 < yd.length → ¬ (2 ≤ f ∧ f ≤ 4)) ∧ (0 < md.length → f ≠ 3)) (by
    rw [wi_one mo 12 true]
    unfold listsP
    constructor
    · rintro ⟨a1, a2, a3, a4, a5, a6, a7, a8, a9, a10, a11⟩
      exact ⟨⟨a1, a2, a3, a4, a6, a7, a8, a5, a9, a11⟩, a10⟩
    · rintro ⟨⟨a1, a2, a3, a4, a6, a7, a8, a5, a9, a11⟩, a10⟩
      exact ⟨a1, a2, a3, a4, a5, a6, a7, a8, a9, a10, a11⟩)
  -- numbers
  have no : ¬ numP f iv ct un wk en → Gate (some (false, ())) (mayP f iv ct un wk en mo we yd md dy ho mi se po) (vokref4_May.l8 f iv ct un wk en mo we yd md dy ho mi se po) := fun hn => gate_no fun q => hn q.1
  have yes : numP f iv ct un wk en → Gate (vokref4_May.l3 f iv ct un wk en mo we yd md dy ho mi se po) (mayP f iv ct un wk en mo we yd md dy ho mi se po) (vokref4_May.l8 f iv ct un wk en mo we yd md dy ho mi se po) := fun hn => g3'.iff ⟨fun q => ⟨hn, q⟩, fun q => q.2⟩
  rw [vokref4_May.f_eq]
  dsimp only
  by_cases c : 1 ≤ f ∧ f ≤ 7 ∧ 1 ≤ iv ∧ iv ≤ 1000 ∧ 0 ≤ ct ∧ ct ≤ 4096 ∧ 0 ≤ wk ∧ wk ≤ 6
  · have c' := c
    obtain ⟨c1, c2, c3, c4, c5, c6, c7, c8⟩ := c
    simp (disch := omega) only [dp, dn, decide_true, decide_false, cond_true, cond_false, Bool.not_true, Bool.not_false, Bool.true_and, Bool.false_and, Bool.and_true, Bool.and_false, Bool.true_or, Bool.false_or, Bool.or_true, Bool.or_false, wr, Option.bind_some, tn_add, tn_add1, tn_sub1, tn_0, tn_1, Int.toNat_natCast, vokref4_May.l1_eq, vokref1_May.f_eq]
    cases en with
    | true =>
      simp (disch := omega) only [dp, dn, decide_true, decide_false, cond_true, cond_false, Bool.not_true, Bool.not_false, Bool.true_and, Bool.false_and, Bool.and_true, Bool.and_false, Bool.true_or, Bool.false_or, Bool.or_true, Bool.or_false, wr, Option.bind_some, tn_add, tn_add1, tn_sub1, tn_0, tn_1, Int.toNat_natCast]
      by_cases d0 : ct > 0
      · simp (disch := omega) only [dp, dn, decide_true, decide_false, cond_true, cond_false, Bool.not_true, Bool.not_false, Bool.true_and, Bool.false_and, Bool.and_true, Bool.and_false, Bool.true_or, Bool.false_or, Bool.or_true, Bool.or_false, wr, Option.bind_some, tn_add, tn_add1, tn_sub1, tn_0, tn_1, Int.toNat_natCast, l2t]
        exact no fun q => by have := (q.2.1 rfl).2; omega
      · by_cases d1 : un ≥ -62135596800
        · by_cases d2 : un < 253402300800
          · simp (disch := omega) only [dp, dn, decide_true, decide_false, cond_true, cond_false, Bool.not_true, Bool.not_false, Bool.true_and, Bool.false_and, Bool.and_true, Bool.and_false, Bool.true_or, Bool.false_or, Bool.or_true, Bool.or_false, wr, Option.bind_some, tn_add, tn_add1, tn_sub1, tn_0, tn_1, Int.toNat_natCast, l2f]
            exact yes ⟨c', fun _ => ⟨⟨by omega, by omega⟩, by omega⟩, fun q => by cases q⟩
          · simp (disch := omega) only [dp, dn, decide_true, decide_false, cond_true, cond_false, Bool.not_true, Bool.not_false, Bool.true_and, Bool.false_and, Bool.and_true, Bool.and_false, Bool.true_or, Bool.false_or, Bool.or_true, Bool.or_false, wr, Option.bind_some, tn_add, tn_add1, tn_sub1, tn_0, tn_1, Int.toNat_natCast, l2t]
            exact no fun q => by have := (q.2.1 rfl).1; omega
        · simp (disch := omega) only [dp, dn, decide_true, decide_false, cond_true, cond_false, Bool.not_true, Bool.not_false, Bool.true_and, Bool.false_and, Bool.and_true, Bool.and_false, Bool.true_or, Bool.false_or, Bool.or_true, Bool.or_false, wr, Option.bind_some, tn_add, tn_add1, tn_sub1, tn_0, tn_1, Int.toNat_natCast, l2t]
          exact no fun q => by have := (q.2.1 rfl).1; omega
    | false =>
      by_cases d0 : un = 0
      · simp (disch := omega) only [dp, dn, decide_true, decide_false, cond_true, cond_false, Bool.not_true, Bool.not_false, Bool.true_and, Bool.false_and, Bool.and_true, Bool.and_false, Bool.true_or, Bool.false_or, Bool.or_true, Bool.or_false, wr, Option.bind_some, tn_add, tn_add1, tn_sub1, tn_0, tn_1, Int.toNat_natCast, l2f]
        exact yes ⟨c', (fun q => by cases q), fun _ => d0⟩
      · simp (disch := omega) only [dp, dn, decide_true, decide_false, cond_true, cond_false, Bool.not_true, Bool.not_false, Bool.true_and, Bool.false_and, Bool.and_true, Bool.and_false, Bool.true_or, Bool.false_or, Bool.or_true, Bool.or_false, wr, Option.bind_some, tn_add, tn_add1, tn_sub1, tn_0, tn_1, Int.toNat_natCast, l2t]
        exact no fun q => d0 (q.2.2 rfl)
  · have hn := no fun q => c q.1
    have hb : ∀ {p : Prop} [Decidable p] {x : Option (Bool × Unit)}, (¬ p → Gate x (mayP f iv ct un wk en mo we yd md dy ho mi se po) (vokref4_May.l8 f iv ct un wk en mo we yd md dy ho mi se po)) → Gate (bif decide p then (some (false, ())) else x) (mayP f iv ct un wk en mo we yd md dy ho mi se po) (vokref4_May.l8 f iv ct un wk en mo we yd md dy ho mi se po) := fun {p} _ {x} h1 => by
      by_cases hp : p
      · rw [dp hp, cond_true]; exact hn
      · rw [dn hp, cond_false]; exact h1 hp
    rw [l1t]
    refine hb fun d1 => hb fun d2 => hb fun d3 => hb fun d4 => hb fun d5 => hb fun d6 => hb fun d7 => ?_
    have : wk > 6 := by omega
    rw [dp this, l1t]
    exact hn
theorem tail_same : rule_May.l5 f iv ct un wk en mo we yd md dy ho mi se po = vokref4_May.l8 f iv ct un wk en mo we yd md dy ho mi se po := by
  have e7 : rule_May.l7 f iv ct un wk en mo we yd md dy ho mi se po = vokref4_May.l10 f iv ct un wk en mo we yd md dy ho mi se po := by rw [rule_May.l7_eq, vokref4_May.l10_eq]
  have e6 : ∀ b, rule_May.l6 b f iv ct un wk en mo we yd md dy ho mi se po = vokref4_May.l9 b f iv ct un wk en mo we yd md dy ho mi se po := fun b => by rw [rule_May.l6_eq, vokref4_May.l9_eq, e7]
  rw [rule_May.l5_eq, vokref4_May.l8_eq, e6, e6]
end
/-- Both are one. -/
theorem may_same (r : Rl) (h : short r.2.2.2.2.2.2.1 r.2.2.2.2.2.2.2.1 r.2.2.2.2.2.2.2.2.1 r.2.2.2.2.2.2.2.2.2.1 r.2.2.2.2.2.2.2.2.2.2.1 r.2.2.2.2.2.2.2.2.2.2.2.1 r.2.2.2.2.2.2.2.2.2.2.2.2.1 r.2.2.2.2.2.2.2.2.2.2.2.2.2.1 r.2.2.2.2.2.2.2.2.2.2.2.2.2.2.1) : rule_May.f r = vokref4_May.f r := by
  obtain ⟨f, iv, ct, un, wk, en, mo, we, yd, md, dy, ho, mi, se, po, ⟨⟩⟩ := r
  have g1 := may_gate f iv ct un wk en mo we yd md dy ho mi se po h
  rw [tail_same] at g1
  exact g1.eq (vgate f iv ct un wk en mo we yd md dy ho mi se po h)
/-- It tells something. -/
theorem may_some (r : Rl) (h : short r.2.2.2.2.2.2.1 r.2.2.2.2.2.2.2.1 r.2.2.2.2.2.2.2.2.1 r.2.2.2.2.2.2.2.2.2.1 r.2.2.2.2.2.2.2.2.2.2.1 r.2.2.2.2.2.2.2.2.2.2.2.1 r.2.2.2.2.2.2.2.2.2.2.2.2.1 r.2.2.2.2.2.2.2.2.2.2.2.2.2.1 r.2.2.2.2.2.2.2.2.2.2.2.2.2.2.1) : ∃ b, rule_May.f r = some (b, ()) := by
  obtain ⟨f, iv, ct, un, wk, en, mo, we, yd, md, dy, ho, mi, se, po, ⟨⟩⟩ := r
  have g1 := may_gate f iv ct un wk en mo we yd md dy ho mi se po h
  by_cases hp : mayP f iv ct un wk en mo we yd md dy ho mi se po
  · rw [g1.1 hp, rule_May.l5_eq]
    have e7 : ∃ b, rule_May.l7 f iv ct un wk en mo we yd md dy ho mi se po = some (b, ()) := by
      rw [rule_May.l7_eq]
      cases decide (f > 4) with
      | true => exact ⟨_, rfl⟩
      | false => exact ⟨_, rfl⟩
    have e6 : ∀ c, ∃ b, rule_May.l6 c f iv ct un wk en mo we yd md dy ho mi se po = some (b, ()) := fun c => by
      rw [rule_May.l6_eq]
      cases c with
      | true => exact ⟨_, rfl⟩
      | false => exact e7
    cases decide ((po.length : Int) > 0) with
    | true => exact e6 _
    | false => exact e6 _
  · exact ⟨false, g1.2 hp⟩
end Go.GV.YtkkfgajlnpcpcaaGreatDoor
