/-
Lists of days. (This session's own text.)
-/
import Derived.Test.YtkkfgajlnpcpcaaGreatDoorRlList
set_option linter.unusedVariables false
set_option linter.unusedSimpArgs false
namespace Go.GV.YtkkfgajlnpcpcaaGreatDoor
open Go.Proofs
def wd : List (List UInt8) := [[77, 79], [84, 85], [87, 69], [84, 72], [70, 82], [83, 65], [83, 85]]
theorem weekdays_eq : rule_weekdays.f = some (wd.map mkS, ()) := by rw [rule_weekdays.f_eq]; rfl
theorem wdays_eq : vokref4_wdays.f = some (wd.map mkS, ()) := by rw [vokref4_wdays.f_eq]; rfl
theorem posF_lt : ∀ (l : List (List UInt8)) (v : List UInt8) (i : Int), 0 ≤ i → posF i l v < i + l.length
  | [], v, i, h => by simp [posF]; omega
  | w :: l, v, i, h => by
    unfold posF
    split
    · simp; omega
    · have := posF_lt l v (i + 1) (by omega)
      simp
      omega
/-- A day with its number, as it is written. -/
def isD (s : List UInt8) (n w : Int) : Prop := 2 ≤ s.length ∧ w = posF 0 wd (s.drop (s.length - 2)) ∧ 0 ≤ w ∧ ((s.take (s.length - 2) = [] ∧ n = 0) ∨ (s.take (s.length - 2) ≠ [] ∧ isN (s.take (s.length - 2)) n ∧ n ≠ 0))
theorem isD_bd {s : List UInt8} {n w : Int} (h : isD s n w) : 0 ≤ w ∧ w ≤ 6 ∧ -999999999 ≤ n ∧ n ≤ 999999999 := by
  obtain ⟨_, h2, h3, h4⟩ := h
  have h5 := posF_lt wd (s.drop (s.length - 2)) 0 (by omega)
  have h6 : (wd.length : Int) = 7 := rfl
  refine ⟨h3, by omega, ?_⟩
  rcases h4 with ⟨_, rfl⟩ | ⟨_, h7, _⟩
  · omega
  · exact h7.2
theorem isD_uniq {s : List UInt8} {n w m v : Int} (h : isD s n w) (g : isD s m v) : n = m ∧ w = v := by
  obtain ⟨_, h2, _, h4⟩ := h
  obtain ⟨_, g2, _, g4⟩ := g
  refine ⟨?_, by rw [h2, g2]⟩
  rcases h4 with ⟨h5, h6⟩ | ⟨h5, h6, _⟩ <;> rcases g4 with ⟨g5, g6⟩ | ⟨g5, g6, _⟩
  · rw [h6, g6]
  · exact absurd h5 g5
  · exact absurd g5 h5
  · exact isN_uniq h6 g6
theorem day_spec (s : List UInt8) (hs : s.length ≤ 100000) :
    (∃ n w, isD s n w ∧ rule_day.f (mkS s) = some ((n, w, ()), true, ())) ∨ ((∀ n w, ¬ isD s n w) ∧ ∃ d, rule_day.f (mkS s) = some (d, false, ())) := by
  rw [rule_day.f_eq]
  by_cases c1 : (s.length : Int) < 2
  · refine .inr ⟨fun n w h => ?_, (0, 0, ()), ?_⟩
    · have := h.1
      omega
    · simp (disch := omega) only [dp, dn, decide_true, decide_false, cond_true, cond_false, Bool.not_true, Bool.not_false, Bool.true_and, Bool.false_and, Bool.and_true, Bool.and_false, Bool.true_or, Bool.false_or, Bool.or_true, Bool.or_false, wr, Option.bind_some, tn_add, tn_add1, tn_sub1, tn_0, tn_1, Int.toNat_natCast, szS]
  · have w1 : IntKind.i64.wrap ((s.length : Int) - 2) = ((s.length - 2 : Nat) : Int) := by rw [wr (by omega) (by omega)]; omega
    have x1 : (mkS s).extract (s.length - 2) s.length = mkS (s.drop (s.length - 2)) := B_inj (by rw [← szS s, B_exte, B_mk, B_mk])
    have x2 : (mkS s).extract 0 (s.length - 2) = mkS (s.take (s.length - 2)) := B_inj (by rw [B_ext0, B_mk, B_mk])
    have hI := index_spec wd (s.drop (s.length - 2)) (by decide)
    have hm : (⟨#[]⟩ : ByteArray) = mkS [] := rfl
    simp (disch := omega) only [dp, dn, decide_true, decide_false, cond_true, cond_false, Bool.not_true, Bool.not_false, Bool.true_and, Bool.false_and, Bool.and_true, Bool.and_false, Bool.true_or, Bool.false_or, Bool.or_true, Bool.or_false, wr, Option.bind_some, tn_add, tn_add1, tn_sub1, tn_0, tn_1, Int.toNat_natCast, szS, w1, x1, x2, weekdays_eq, hI, beq_S, hm]
    have hp := (posF_ge wd (s.drop (s.length - 2)) 0 (by omega)).2
    by_cases c2 : s.take (s.length - 2) = []
    · have e : decide (mkS (s.take (s.length - 2)) = mkS []) = true := dp (by rw [c2])
      rw [e, cond_true]
      by_cases c3 : posF 0 wd (s.drop (s.length - 2)) ≥ 0
      · rw [dp c3]
        exact .inl ⟨0, _, ⟨by omega, rfl, c3, .inl ⟨c2, rfl⟩⟩, rfl⟩
      · rw [dn c3]
        refine .inr ⟨fun n w h => ?_, _, rfl⟩
        have h2 := h.2.1
        have h3 := h.2.2.1
        omega
    · have e : decide (mkS (s.take (s.length - 2)) = mkS []) = false := dn fun q => c2 (mkS_inj q)
      rw [e, cond_false]
      rcases number_spec (s.take (s.length - 2)) (by rw [List.length_take]; omega) with ⟨n, hn, hf⟩ | ⟨hn, n, hf⟩
      · rw [hf]
        simp only [Option.bind_some, cond_true]
        by_cases c4 : n = 0
        · simp (disch := omega) only [dp, dn, decide_true, decide_false, cond_true, cond_false, Bool.not_true, Bool.not_false, Bool.true_and, Bool.false_and, Bool.and_true, Bool.and_false, Bool.true_or, Bool.false_or, Bool.or_true, Bool.or_false, wr, Option.bind_some, tn_add, tn_add1, tn_sub1, tn_0, tn_1, Int.toNat_natCast]
          refine .inr ⟨fun m w h => ?_, _, rfl⟩
          rcases h.2.2.2 with ⟨h5, _⟩ | ⟨_, h6, h7⟩
          · exact c2 h5
          · exact h7 ((isN_uniq h6 hn).trans c4)
        · simp (disch := omega) only [dp, dn, decide_true, decide_false, cond_true, cond_false, Bool.not_true, Bool.not_false, Bool.true_and, Bool.false_and, Bool.and_true, Bool.and_false, Bool.true_or, Bool.false_or, Bool.or_true, Bool.or_false, wr, Option.bind_some, tn_add, tn_add1, tn_sub1, tn_0, tn_1, Int.toNat_natCast]
          by_cases c3 : posF 0 wd (s.drop (s.length - 2)) ≥ 0
          · rw [dp c3]
            exact .inl ⟨n, _, ⟨by omega, rfl, c3, .inr ⟨c2, hn, c4⟩⟩, rfl⟩
          · rw [dn c3]
            refine .inr ⟨fun m w h => ?_, _, rfl⟩
            have h2 := h.2.1
            have h3 := h.2.2.1
            omega
      · rw [hf]
        simp only [Option.bind_some, cond_false]
        refine .inr ⟨fun m w h => ?_, _, rfl⟩
        rcases h.2.2.2 with ⟨h5, _⟩ | ⟨_, h6, _⟩
        · exact c2 h5
        · exact hn m h6
/-! ### The document's days -/
theorem vd_l4 (x4 : List ByteArray) (x6 x8 x9 : Int) : vokref4_days.l4 x4 x6 x8 x9 = vokref4_days.l4a x4 x6 x8 x9 [] := by rw [vokref4_days.l4_eq, vokref4_days.l4a_eq]
theorem vd_l3 (x4 : List ByteArray) (x6 x8 x9 : Int) (b : Bool) : vokref4_days.l3 x4 x6 x8 x9 b = vokref4_days.l3a x4 x6 x8 x9 b [] := by rw [vokref4_days.l3_eq, vokref4_days.l3a_eq, vd_l4]
theorem vd_l2 (x4 : List ByteArray) (x6 x7 x8 x9 : Int) (b : Bool) : vokref4_days.l2 x4 x6 x7 x8 x9 b = vokref4_days.l2a x4 x6 x7 x8 x9 b [] := by rw [vokref4_days.l2_eq, vokref4_days.l2a_eq, vd_l3, vd_l3, vd_l3]
theorem vd_l1 (x4 : List ByteArray) (x6 : Int) : vokref4_days.l1 x4 x6 = vokref4_days.l1a x4 x6 [] := by
  rw [vokref4_days.l1_eq, vokref4_days.l1a_eq]
  simp only [vd_l2]
theorem vday_step (p : List (List UInt8)) (hp : p.length ≤ 100000) (i : Nat) (hi : i < p.length) (hpl : (p.getD i []).length ≤ 100000) (y : List Int) (hy : y.length ≤ i) :
    (∀ n w, isD (p.getD i []) n w → vokref4_days.l1a (p.map mkS) i y = vokref4_days.l1a (p.map mkS) (i + 1 : Nat) (y ++ [7 * n + w])) ∧
    ((∀ n w, ¬ isD (p.getD i []) n w) → vokref4_days.l1a (p.map mkS) i y = some ([], false, ())) := by
  have hlim : limit = 17179869184 := rfl
  have hml : (p.map mkS).length = p.length := List.length_map ..
  have hg := gm p i hi
  generalize hs : p.getD i [] = s at hg hpl
  have key : vokref4_days.l1a (p.map mkS) i y = bif decide ((s.length : Int) < 2) then (some ([], false, ())) else
      (bif decide (((s.length - 2 : Nat) : Int) > 0) then ((vokref4_number.f (mkS (s.take (s.length - 2)))).bind fun t8 => vokref4_days.l2a (p.map mkS) i ((s.length - 2 : Nat) : Int) (if s.drop (s.length - 2) = [] then -1 else posF 0 wd (s.drop (s.length - 2))) t8.1 t8.2.1 y)
       else vokref4_days.l2a (p.map mkS) i ((s.length - 2 : Nat) : Int) (if s.drop (s.length - 2) = [] then -1 else posF 0 wd (s.drop (s.length - 2))) 0 true y) := by
    rw [vokref4_days.l1a_eq]
    by_cases c1 : (s.length : Int) < 2
    · simp (disch := omega) only [dp, dn, decide_true, decide_false, cond_true, cond_false, Bool.not_true, Bool.not_false, Bool.true_and, Bool.false_and, Bool.and_true, Bool.and_false, Bool.true_or, Bool.false_or, Bool.or_true, Bool.or_false, wr, Option.bind_some, tn_add, tn_add1, tn_sub1, tn_0, tn_1, Int.toNat_natCast, hml, hg, szS]
    · have w1 : IntKind.i64.wrap ((s.length : Int) - 2) = ((s.length - 2 : Nat) : Int) := by rw [wr (by omega) (by omega)]; omega
      have x1 : (mkS s).extract (s.length - 2) s.length = mkS (s.drop (s.length - 2)) := B_inj (by rw [← szS s, B_exte, B_mk, B_mk])
      have x2 : (mkS s).extract 0 (s.length - 2) = mkS (s.take (s.length - 2)) := B_inj (by rw [B_ext0, B_mk, B_mk])
      have hW := word_spec wd (s.drop (s.length - 2)) (by decide)
      simp (disch := omega) only [dp, dn, decide_true, decide_false, cond_true, cond_false, Bool.not_true, Bool.not_false, Bool.true_and, Bool.false_and, Bool.and_true, Bool.and_false, Bool.true_or, Bool.false_or, Bool.or_true, Bool.or_false, wr, Option.bind_some, tn_add, tn_add1, tn_sub1, tn_0, tn_1, Int.toNat_natCast, hml, hg, szS, w1, x1, wdays_eq, hW, x2]
  rw [key]
  by_cases c1 : (s.length : Int) < 2
  · rw [dp c1, cond_true]
    refine ⟨fun n w h => ?_, fun _ => rfl⟩
    have := h.1
    omega
  · rw [dn c1, cond_false]
    have hne : s.drop (s.length - 2) ≠ [] := fun q => by
      have := congrArg List.length q
      rw [List.length_drop, List.length_nil] at this
      omega
    rw [if_neg hne]
    have hp2 := (posF_ge wd (s.drop (s.length - 2)) 0 (by omega)).2
    have hp3 := posF_lt wd (s.drop (s.length - 2)) 0 (by omega)
    have h7 : (wd.length : Int) = 7 := rfl
    -- what stands behind the tests
    have tail : ∀ n w, isD s n w → w = posF 0 wd (s.drop (s.length - 2)) → vokref4_days.l3a (p.map mkS) i w n false y = vokref4_days.l1a (p.map mkS) (i + 1 : Nat) (y ++ [7 * n + w]) := by
      intro n w h _
      have hb := isD_bd h
      rw [vokref4_days.l3a_eq]
      simp (disch := omega) only [dp, dn, decide_true, decide_false, cond_true, cond_false, Bool.not_true, Bool.not_false, Bool.true_and, Bool.false_and, Bool.and_true, Bool.and_false, Bool.true_or, Bool.false_or, Bool.or_true, Bool.or_false, wr, Option.bind_some, tn_add, tn_add1, tn_sub1, tn_0, tn_1, Int.toNat_natCast, vokref4_days.l4a_eq, List.length_singleton, hlim]
      rfl
    have stop : ∀ n w, vokref4_days.l3a (p.map mkS) i w n true y = some ([], false, ()) := fun n w => by
      rw [vokref4_days.l3a_eq, cond_true]
    by_cases c3 : posF 0 wd (s.drop (s.length - 2)) < 0
    · refine ⟨fun n w h => ?_, fun _ => ?_⟩
      · have h2 := h.2.1
        have h3 := h.2.2.1
        omega
      · by_cases c2 : ((s.length - 2 : Nat) : Int) > 0
        · rw [dp c2, cond_true]
          rcases vnumber_spec (s.take (s.length - 2)) (by rw [List.length_take]; omega) with ⟨n, hn, hf⟩ | ⟨hn, n, hf⟩
          · simp (disch := omega) only [dp, dn, decide_true, decide_false, cond_true, cond_false, Bool.not_true, Bool.not_false, Bool.true_and, Bool.false_and, Bool.and_true, Bool.and_false, Bool.true_or, Bool.false_or, Bool.or_true, Bool.or_false, wr, Option.bind_some, tn_add, tn_add1, tn_sub1, tn_0, tn_1, Int.toNat_natCast, hf, vokref4_days.l2a_eq, stop]
          · simp (disch := omega) only [dp, dn, decide_true, decide_false, cond_true, cond_false, Bool.not_true, Bool.not_false, Bool.true_and, Bool.false_and, Bool.and_true, Bool.and_false, Bool.true_or, Bool.false_or, Bool.or_true, Bool.or_false, wr, Option.bind_some, tn_add, tn_add1, tn_sub1, tn_0, tn_1, Int.toNat_natCast, hf, vokref4_days.l2a_eq, stop]
        · rw [dn c2, cond_false]
          simp (disch := omega) only [dp, dn, decide_true, decide_false, cond_true, cond_false, Bool.not_true, Bool.not_false, Bool.true_and, Bool.false_and, Bool.and_true, Bool.and_false, Bool.true_or, Bool.false_or, Bool.or_true, Bool.or_false, wr, Option.bind_some, tn_add, tn_add1, tn_sub1, tn_0, tn_1, Int.toNat_natCast, vokref4_days.l2a_eq, stop]
    · by_cases c2 : ((s.length - 2 : Nat) : Int) > 0
      · have hnt : s.take (s.length - 2) ≠ [] := fun q => by
          have := congrArg List.length q
          rw [List.length_take, List.length_nil] at this
          omega
        rw [dp c2, cond_true]
        rcases vnumber_spec (s.take (s.length - 2)) (by rw [List.length_take]; omega) with ⟨n, hn, hf⟩ | ⟨hn, n, hf⟩
        · simp (disch := omega) only [dp, dn, decide_true, decide_false, cond_true, cond_false, Bool.not_true, Bool.not_false, Bool.true_and, Bool.false_and, Bool.and_true, Bool.and_false, Bool.true_or, Bool.false_or, Bool.or_true, Bool.or_false, wr, Option.bind_some, tn_add, tn_add1, tn_sub1, tn_0, tn_1, Int.toNat_natCast, hf, vokref4_days.l2a_eq]
          by_cases c4 : n = 0
          · rw [dp c4, stop]
            refine ⟨fun m w h => ?_, fun _ => rfl⟩
            rcases h.2.2.2 with ⟨h5, _⟩ | ⟨_, h6, h8⟩
            · exact absurd h5 hnt
            · exact absurd ((isN_uniq h6 hn).trans c4) h8
          · have hD : isD s n (posF 0 wd (s.drop (s.length - 2))) := ⟨by omega, rfl, by omega, .inr ⟨hnt, hn, c4⟩⟩
            rw [dn c4, tail n _ hD rfl]
            refine ⟨fun m w h => ?_, fun h => absurd hD (h _ _)⟩
            obtain ⟨e1, e2⟩ := isD_uniq h hD
            rw [e1, e2]
        · simp (disch := omega) only [dp, dn, decide_true, decide_false, cond_true, cond_false, Bool.not_true, Bool.not_false, Bool.true_and, Bool.false_and, Bool.and_true, Bool.and_false, Bool.true_or, Bool.false_or, Bool.or_true, Bool.or_false, wr, Option.bind_some, tn_add, tn_add1, tn_sub1, tn_0, tn_1, Int.toNat_natCast, hf, vokref4_days.l2a_eq, stop]
          refine ⟨fun m w h => ?_, fun _ => trivial⟩
          rcases h.2.2.2 with ⟨h5, _⟩ | ⟨_, h6, _⟩
          · exact absurd h5 hnt
          · exact absurd h6 (hn m)
      · have hnt : s.take (s.length - 2) = [] := List.eq_nil_of_length_eq_zero (by rw [List.length_take]; omega)
        have hD : isD s 0 (posF 0 wd (s.drop (s.length - 2))) := ⟨by omega, rfl, by omega, .inl ⟨hnt, rfl⟩⟩
        rw [dn c2, cond_false]
        simp (disch := omega) only [dp, dn, decide_true, decide_false, cond_true, cond_false, Bool.not_true, Bool.not_false, Bool.true_and, Bool.false_and, Bool.and_true, Bool.and_false, Bool.true_or, Bool.false_or, Bool.or_true, Bool.or_false, wr, Option.bind_some, tn_add, tn_add1, tn_sub1, tn_0, tn_1, Int.toNat_natCast, vokref4_days.l2a_eq]
        rw [tail 0 _ hD rfl]
        refine ⟨fun m w h => ?_, fun h => absurd hD (h _ _)⟩
        obtain ⟨e1, e2⟩ := isD_uniq h hD
        rw [e1, e2]
end Go.GV.YtkkfgajlnpcpcaaGreatDoor
