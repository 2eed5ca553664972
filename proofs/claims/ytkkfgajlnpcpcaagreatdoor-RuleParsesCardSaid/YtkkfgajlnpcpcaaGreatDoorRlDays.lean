/-
Lists of days: the program's and the document's are one. (This session's own text.)
-/
import Derived.Test.YtkkfgajlnpcpcaaGreatDoorRlDay
set_option linter.unusedVariables false
set_option linter.unusedSimpArgs false
namespace Go.GV.YtkkfgajlnpcpcaaGreatDoor
open Go.Proofs
/-! ### Strictly rising -/
abbrev risesD (l : List Dy) : Prop := l.Pairwise dyLt
theorem risesD_uniq : ∀ {a b : List Dy}, risesD a → risesD b → (∀ x, x ∈ a ↔ x ∈ b) → a = b
  | [], [], _, _, _ => rfl
  | [], y :: b, _, _, h => by have := (h y).2 List.mem_cons_self; cases this
  | x :: a, [], _, _, h => by have := (h x).1 List.mem_cons_self; cases this
  | x :: a, y :: b, ha, hb, h => by
    have ha := List.pairwise_cons.1 ha
    have hb := List.pairwise_cons.1 hb
    have irr : ∀ q : Dy, ¬ dyLt q q := fun q hq => by unfold dyLt at hq; omega
    have asy : ∀ q r : Dy, dyLt q r → dyLt r q → False := fun q r h g => by unfold dyLt at *; omega
    have e : x = y := by
      have h1 := (h x).1 List.mem_cons_self
      have h2 := (h y).2 List.mem_cons_self
      rcases List.mem_cons.1 h1 with h1 | h1
      · exact h1
      · rcases List.mem_cons.1 h2 with h2 | h2
        · exact h2.symm
        · exact (asy _ _ (hb.1 x h1) (ha.1 y h2)).elim
    subst e
    rw [risesD_uniq ha.2 hb.2 fun z => ?_]
    have h3 := h z
    simp only [List.mem_cons] at h3
    constructor
    · intro hz
      rcases h3.1 (.inr hz) with h4 | h4
      · exact (irr _ (h4 ▸ ha.1 z hz)).elim
      · exact h4
    · intro hz
      rcases h3.2 (.inr hz) with h4 | h4
      · exact (irr _ (h4 ▸ hb.1 z hz)).elim
      · exact h4
theorem ddT_mem : ∀ (l : List Dy) (p x : Dy), x ∈ ddT p l ∨ x = p ↔ x ∈ l ∨ x = p
  | [], p, x => by simp [ddT]
  | a :: l, p, x => by
    unfold ddT
    have ih := ddT_mem l a x
    by_cases h : a = p
    · subst h
      rw [if_pos rfl, ih, List.mem_cons]
      constructor
      · rintro (h | h)
        · exact .inl (.inr h)
        · exact .inr h
      · rintro ((h | h) | h)
        · exact .inr h
        · exact .inl h
        · exact .inr h
    · rw [if_neg h, List.mem_cons, List.mem_cons]
      constructor
      · rintro ((h1 | h1) | h1)
        · exact .inl (.inl h1)
        · rcases ih.1 (.inl h1) with h2 | h2
          · exact .inl (.inr h2)
          · exact .inl (.inl h2)
        · exact .inr h1
      · rintro ((h1 | h1) | h1)
        · exact .inl (.inl h1)
        · rcases ih.2 (.inl h1) with h2 | h2
          · exact .inl (.inr h2)
          · exact .inl (.inl h2)
        · exact .inr h1
def dyLe (a b : Dy) : Prop := a.1 < b.1 ∨ a.1 = b.1 ∧ a.2.1 ≤ b.2.1
theorem dyLt_of {a b : Dy} (h : dyLe a b) (hne : ¬ b = a) : dyLt a b := by
  obtain ⟨a1, a2, ⟨⟩⟩ := a
  obtain ⟨b1, b2, ⟨⟩⟩ := b
  unfold dyLe at h
  unfold dyLt
  simp only at h ⊢
  by_cases h1 : a1 = b1
  · by_cases h2 : a2 = b2
    · exact absurd (by rw [h1, h2]) hne
    · omega
  · omega
theorem ddT_rises : ∀ (l : List Dy) (p : Dy), (p :: l).Pairwise dyLe → risesD (p :: ddT p l)
  | [], p, _ => List.pairwise_singleton _ _
  | a :: l, p, h => by
    unfold ddT
    rw [List.pairwise_cons] at h
    have ih := ddT_rises l a h.2
    by_cases he : a = p
    · subst he; rw [if_pos rfl]; exact ih
    · rw [if_neg he]
      have hlt : dyLt p a := dyLt_of (h.1 a List.mem_cons_self) he
      refine List.pairwise_cons.2 ⟨fun b hb => ?_, ih⟩
      rcases List.mem_cons.1 hb with rfl | hb
      · exact hlt
      · have := (List.pairwise_cons.1 ih).1 b hb
        unfold dyLt at *
        omega
theorem ddT_len : ∀ (l : List Dy) (p : Dy), (ddT p l).length ≤ l.length
  | [], _ => Nat.le_refl _
  | a :: l, p => by
    unfold ddT
    have := ddT_len l a
    split <;> simp <;> omega
theorem sortD_spec {y : List Dy} (hy : y.length ≤ 1000000) (hb : ∀ d ∈ y, -1000000000 ≤ d.1 ∧ d.1 ≤ 1000000000 ∧ 0 ≤ d.2.1 ∧ d.2.1 ≤ 6) :
    ∃ r, slices_SortFunc_api_Day_api_Day.f y () = some (r, (), ()) ∧ r.length = y.length ∧ risesD (ddsT r) ∧ (∀ x, x ∈ ddsT r ↔ x ∈ y) ∧ (ddsT r).length ≤ y.length := by
  have hall : y.all okf89 = true := List.all_eq_true.2 fun d hd => by
    have := hb d hd
    unfold okf89 small
    simp only [Bool.and_eq_true, decide_eq_true_eq]
    omega
  obtain ⟨r, hr⟩ : ∃ r : List Dy, sortB okf89 zf89 cf89 y = some r := by unfold sortB; rw [hall]; exact ⟨_, rfl⟩
  have hp : List.Perm (α := Dy) r y := sortB_perm swo89 hr
  have hso0 : List.Pairwise (α := Dy) (fun a b => ¬ cf89 b a < 0) r := sortB_sorted swo89 hr
  have hso : r.Pairwise dyLe := hso0.imp fun {a b} h => by
    have h2 := lt_diff b.1 b.2.1 a.1 a.2.1
    have h3 : decide (diffCmp b.1 b.2.1 a.1 a.2.1 < 0) = false := decide_eq_false h
    rw [h3] at h2
    have := of_decide_eq_false h2.symm
    unfold dyLe
    omega
  have hf : slices_SortFunc_api_Day_api_Day.f y () = some (r, (), ()) := by
    rw [slices_SortFunc_api_Day_api_Day.f_sem]
    show (bif decide (List.length y ≤ limit) then (sortB okf89 zf89 cf89 y).map (fun ys => (ys, (), ())) else none) = _
    rw [dp (by simp only [limit]; omega), cond_true, hr]
    rfl
  refine ⟨r, hf, hp.length_eq, ?_, fun x => ?_, ?_⟩
  · cases r with
    | nil => exact List.Pairwise.nil
    | cons a r => exact ddT_rises r a hso
  · have e : x ∈ ddsT r ↔ x ∈ r := by
      cases r with
      | nil => exact Iff.rfl
      | cons a r =>
        show x ∈ a :: ddT a r ↔ _
        rw [List.mem_cons, List.mem_cons]
        have := ddT_mem r a x
        constructor
        · rintro (h | h)
          · exact .inl h
          · rcases this.1 (.inl h) with h | h
            · exact .inr h
            · exact .inl h
        · rintro (h | h)
          · exact .inl h
          · rcases this.2 (.inl h) with h | h
            · exact .inr h
            · exact .inl h
    rw [e, hp.mem_iff]
  · rw [← hp.length_eq]
    cases r with
    | nil => exact Nat.le_refl _
    | cons a r => show (a :: ddT a r).length ≤ _; simp [ddT_len]
/-! ### Both -/
def isDy (s : List UInt8) (d : Dy) : Prop := isD s d.1 d.2.1
theorem days_or : ∀ p : List (List UInt8), (∃ ds : List Dy, All2 isDy p ds) ∨ ∃ s ∈ p, ∀ n w, ¬ isD s n w
  | [] => .inl ⟨[], trivial⟩
  | s :: p => by
    by_cases h : ∃ n w, isD s n w
    · obtain ⟨n, w, hn⟩ := h
      rcases days_or p with ⟨ns, h2⟩ | ⟨t, ht, h2⟩
      · exact .inl ⟨(n, w, ()) :: ns, hn, h2⟩
      · exact .inr ⟨t, List.mem_cons_of_mem _ ht, h2⟩
    · exact .inr ⟨s, List.mem_cons_self, fun n w hn => h ⟨n, w, hn⟩⟩
noncomputable def dayEnd (y : List Dy) : Option (List Dy × Bool × Unit) := bif decide ((y.length : Int) > 60) then (some ([], false, ())) else ((slices_SortFunc_api_Day_api_Day.f y ()).bind fun t3 => (slices_Compact_api_Day_api_Day.f t3.1).bind fun t4 => some (t4.1, true, ()))
theorem dlist_l1 (p : List (List UInt8)) (hp : p.length ≤ 100000) (hpl : ∀ s ∈ p, s.length ≤ 100000) : ∀ (k i : Nat) (y : List Dy), p.length - i = k → i ≤ p.length → y.length ≤ i →
    (∀ ds, All2 isDy (p.drop i) ds → rule_dayList.l1 (p.map mkS) p.length i y = dayEnd (y ++ ds)) ∧ ((∃ s ∈ p.drop i, ∀ n w, ¬ isD s n w) → rule_dayList.l1 (p.map mkS) p.length i y = some ([], false, ())) := by
  have hlim : limit = 17179869184 := rfl
  have hml : (p.map mkS).length = p.length := List.length_map ..
  intro k
  induction k with
  | zero =>
    intro i y hk hi hy
    have e : i = p.length := by omega
    subst e
    rw [rule_dayList.l1_eq, List.drop_length]
    simp (disch := omega) only [dp, dn, decide_true, decide_false, cond_true, cond_false, Bool.not_true, Bool.not_false, Bool.true_and, Bool.false_and, Bool.and_true, Bool.and_false, Bool.true_or, Bool.false_or, Bool.or_true, Bool.or_false, wr, Option.bind_some, tn_add, tn_add1, tn_sub1, tn_0, tn_1, Int.toNat_natCast, hml]
    refine ⟨fun ns hns => ?_, fun ⟨s, hs, _⟩ => by cases hs⟩
    cases ns with
    | nil => rw [List.append_nil]; rfl
    | cons _ _ => exact hns.elim
  | succ k ih =>
    intro i y hk hi hy
    have hlt : i < p.length := by omega
    have hg := gm p i hlt
    rw [rule_dayList.l1_eq, drop_getD' [] hlt]
    rcases day_spec (p.getD i []) (by have := hpl _ (getD_mem' [] hlt); omega) with ⟨n, w, hn, hf⟩ | ⟨hn, d, hf⟩
    · simp (disch := omega) only [dp, dn, decide_true, decide_false, cond_true, cond_false, Bool.not_true, Bool.not_false, Bool.true_and, Bool.false_and, Bool.and_true, Bool.and_false, Bool.true_or, Bool.false_or, Bool.or_true, Bool.or_false, wr, Option.bind_some, tn_add, tn_add1, tn_sub1, tn_0, tn_1, Int.toNat_natCast, hml, hg, hf, List.length_singleton, hlim]
      obtain ⟨h1, h2⟩ := ih (i + 1) (y ++ [(n, w, ())]) (by omega) (by omega) (by simp; omega)
      refine ⟨fun ns hns => ?_, fun ⟨s, hs, hs2⟩ => ?_⟩
      · cases ns with
        | nil => exact hns.elim
        | cons m ns =>
          obtain ⟨m1, m2, ⟨⟩⟩ := m
          obtain ⟨e1, e2⟩ := isD_uniq hns.1 hn
          simp only at e1 e2
          subst e1 e2
          refine (h1 ns hns.2).trans ?_
          rw [List.append_assoc]
          rfl
      · refine h2 ?_
        rcases List.mem_cons.1 hs with rfl | hs
        · exact absurd hn (hs2 n w)
        · exact ⟨s, hs, hs2⟩
    · simp (disch := omega) only [dp, dn, decide_true, decide_false, cond_true, cond_false, Bool.not_true, Bool.not_false, Bool.true_and, Bool.false_and, Bool.and_true, Bool.and_false, Bool.true_or, Bool.false_or, Bool.or_true, Bool.or_false, wr, Option.bind_some, tn_add, tn_add1, tn_sub1, tn_0, tn_1, Int.toNat_natCast, hml, hg, hf]
      refine ⟨fun ns hns => ?_, fun _ => trivial⟩
      cases ns with
      | nil => exact hns.elim
      | cons m ns => exact absurd hns.1 (hn _ _)
def keyD (d : Dy) : Int := 7 * d.1 + d.2.1
noncomputable def vdEnd (y : List Int) : Option (List Dy × Bool × Unit) := (vokref_Sorted.f y).bind fun t9 => vokref4_days.l5 t9.1 0 []
theorem vdlist_l1 (p : List (List UInt8)) (hp : p.length ≤ 100000) (hpl : ∀ s ∈ p, s.length ≤ 100000) : ∀ (k i : Nat) (y : List Int), p.length - i = k → i ≤ p.length → y.length ≤ i →
    (∀ ds, All2 isDy (p.drop i) ds → vokref4_days.l1a (p.map mkS) i y = vdEnd (y ++ ds.map keyD)) ∧ ((∃ s ∈ p.drop i, ∀ n w, ¬ isD s n w) → vokref4_days.l1a (p.map mkS) i y = some ([], false, ())) := by
  have hml : (p.map mkS).length = p.length := List.length_map ..
  intro k
  induction k with
  | zero =>
    intro i y hk hi hy
    have e : i = p.length := by omega
    subst e
    rw [vokref4_days.l1a_eq, List.drop_length]
    simp (disch := omega) only [dp, dn, decide_true, decide_false, cond_true, cond_false, Bool.not_true, Bool.not_false, Bool.true_and, Bool.false_and, Bool.and_true, Bool.and_false, Bool.true_or, Bool.false_or, Bool.or_true, Bool.or_false, wr, Option.bind_some, tn_add, tn_add1, tn_sub1, tn_0, tn_1, Int.toNat_natCast, hml]
    refine ⟨fun ns hns => ?_, fun ⟨s, hs, _⟩ => by cases hs⟩
    cases ns with
    | nil => rw [List.map_nil, List.append_nil]; rfl
    | cons _ _ => exact hns.elim
  | succ k ih =>
    intro i y hk hi hy
    have hlt : i < p.length := by omega
    obtain ⟨g1, g2⟩ := vday_step p hp i hlt (hpl _ (getD_mem' [] hlt)) y hy
    rw [drop_getD' [] hlt]
    by_cases h : ∃ n w, isD (p.getD i []) n w
    · obtain ⟨n, w, hn⟩ := h
      rw [g1 n w hn]
      obtain ⟨h1, h2⟩ := ih (i + 1) (y ++ [7 * n + w]) (by omega) (by omega) (by simp; omega)
      refine ⟨fun ns hns => ?_, fun ⟨s, hs, hs2⟩ => ?_⟩
      · cases ns with
        | nil => exact hns.elim
        | cons m ns =>
          obtain ⟨m1, m2, ⟨⟩⟩ := m
          obtain ⟨e1, e2⟩ := isD_uniq hns.1 hn
          simp only at e1 e2
          subst e1 e2
          refine (h1 ns hns.2).trans ?_
          rw [List.append_assoc]
          rfl
      · refine h2 ?_
        rcases List.mem_cons.1 hs with rfl | hs
        · exact absurd hn (hs2 n w)
        · exact ⟨s, hs, hs2⟩
    · have hn : ∀ n w, ¬ isD (p.getD i []) n w := fun n w hn => h ⟨n, w, hn⟩
      rw [g2 hn]
      refine ⟨fun ns hns => ?_, fun _ => rfl⟩
      cases ns with
      | nil => exact hns.elim
      | cons m ns => exact absurd hns.1 (hn _ _)
def decD (k : Int) : Dy := (k / 7, k % 7, ())
theorem vd_l5 (q : List Int) (hq : q.length ≤ 100000) (hb : ∀ k ∈ q, -10000000000 ≤ k ∧ k ≤ 10000000000) : ∀ (k i : Nat) (y : List Dy), q.length - i = k → i ≤ q.length → y.length ≤ i → vokref4_days.l5 q i y = some (y ++ (q.drop i).map decD, true, ()) := by
  have hlim : limit = 17179869184 := rfl
  intro k
  induction k with
  | zero =>
    intro i y hk hi hy
    have e : i = q.length := by omega
    subst e
    rw [vokref4_days.l5_eq, List.drop_length]
    simp (disch := omega) only [dp, dn, decide_true, decide_false, cond_true, cond_false, Bool.not_true, Bool.not_false, Bool.true_and, Bool.false_and, Bool.and_true, Bool.and_false, Bool.true_or, Bool.false_or, Bool.or_true, Bool.or_false, wr, Option.bind_some, tn_add, tn_add1, tn_sub1, tn_0, tn_1, Int.toNat_natCast]
    simp
  | succ k ih =>
    intro i y hk hi hy
    have hlt : i < q.length := by omega
    have hk2 := hb _ (getD_mem' 0 hlt)
    rw [vokref4_days.l5_eq, drop_getD' 0 hlt]
    simp only [Int.toNat_natCast]
    generalize q.getD i 0 = v at hk2
    have e1 : IntKind.i64.wrap (Int.tmod v 7 + 7) = Int.tmod v 7 + 7 := by
      have h1 := Int.tmod_lt_of_pos v (show (0 : Int) < 7 by omega)
      have h2 := Int.lt_tmod_of_pos v (show (0 : Int) < 7 by omega)
      exact wr (by omega) (by omega)
    have e2 : Int.tmod (Int.tmod v 7 + 7) 7 = v % 7 := by
      by_cases h : 0 ≤ v
      · rw [Int.tmod_eq_emod_of_nonneg h, Int.tmod_eq_emod_of_nonneg (by omega)]
        omega
      · have h1 : Int.tmod v 7 = -((-v) % 7) := by
          have : Int.tmod v 7 = -Int.tmod (-v) 7 := by rw [Int.neg_tmod, Int.neg_neg]
          rw [this, Int.tmod_eq_emod_of_nonneg (by omega)]
        rw [h1, Int.tmod_eq_emod_of_nonneg (by omega)]
        omega
    have e3 : Int.tdiv (v - v % 7) 7 = v / 7 := by
      have : v - v % 7 = (v / 7) * 7 := by omega
      rw [this]
      exact Int.mul_tdiv_cancel _ (by omega)
    have e4 : IntKind.i64.wrap (v - v % 7) = v - v % 7 := wr (by omega) (by omega)
    have e5 : IntKind.i64.wrap (v / 7) = v / 7 := wr (by omega) (by omega)
    rw [e1, e2, e4, e3, e5]
    simp (disch := omega) only [dp, dn, decide_true, decide_false, cond_true, cond_false, Bool.not_true, Bool.not_false, Bool.true_and, Bool.false_and, Bool.and_true, Bool.and_false, Bool.true_or, Bool.false_or, Bool.or_true, Bool.or_false, wr, Option.bind_some, tn_add, tn_add1, tn_sub1, tn_0, tn_1, Int.toNat_natCast, List.length_singleton, hlim]
    refine (ih (i + 1) (y ++ [(v / 7, v % 7, ())]) (by omega) (by omega) (by simp; omega)).trans ?_
    rw [List.append_assoc]
    rfl
/-- What a text of days is. -/
def isDL (v : List UInt8) (r : List Dy) : Prop := (risesD r ∧ r.length ≤ 60) ∧ ∃ ds, All2 isDy (segs 44 v) ds ∧ ds.length ≤ 60 ∧ ∀ x, x ∈ r ↔ x ∈ ds
theorem all_bd : ∀ {p : List (List UInt8)} {ds : List Dy}, All2 isDy p ds → ∀ d ∈ ds, -1000000000 ≤ d.1 ∧ d.1 ≤ 1000000000 ∧ 0 ≤ d.2.1 ∧ d.2.1 ≤ 6
  | [], [], _, d, hd => by cases hd
  | s :: p, x :: ds, h, d, hd => by
    rcases List.mem_cons.1 hd with rfl | hd
    · have := isD_bd h.1
      omega
    · exact all_bd h.2 d hd
  | [], _ :: _, h, _, _ => h.elim
  | _ :: _, [], h, _, _ => h.elim
theorem dayList_spec (v : List UInt8) (hv : v.length ≤ 50000) :
    (∃ r, isDL v r ∧ rule_dayList.f (mkS v) = some (r, true, ()) ∧ vokref4_days.f (mkS v) = some (r, true, ())) ∨
    ((∀ r, ¬ isDL v r) ∧ rule_dayList.f (mkS v) = some ([], false, ()) ∧ vokref4_days.f (mkS v) = some ([], false, ())) := by
  have hsl := segs_len 44 v
  have hS : strings_Split.f (mkS v) ⟨#[44]⟩ = some ((segs 44 v).map mkS, ()) := split_one (c := 44) v (by omega)
  have hV : vokref_Split.f (mkS v) 44 = some ((segs 44 v).map mkS, ()) := vsplit_spec 44 v (by omega)
  have hml : ((segs 44 v).map mkS).length = (segs 44 v).length := List.length_map ..
  have h1 := dlist_l1 (segs 44 v) (by omega) (fun s hs => by have := hsl.2 s hs; omega) _ 0 [] rfl (Nat.zero_le _) (Nat.le_refl _)
  have h2 := vdlist_l1 (segs 44 v) (by omega) (fun s hs => by have := hsl.2 s hs; omega) _ 0 [] rfl (Nat.zero_le _) (Nat.le_refl _)
  rw [List.drop_zero, Int.natCast_zero] at h1 h2
  have hf1 : rule_dayList.f (mkS v) = rule_dayList.l1 ((segs 44 v).map mkS) (segs 44 v).length 0 [] := by rw [rule_dayList.f_eq, hS, ← hml]; rfl
  have hf2 : vokref4_days.f (mkS v) = bif decide (((segs 44 v).length : Int) > 60) then some ([], false, ()) else vokref4_days.l1a ((segs 44 v).map mkS) 0 [] := by rw [vokref4_days.f_eq, hV, ← hml, ← vd_l1]; rfl
  rcases days_or (segs 44 v) with ⟨ds, hds⟩ | hbad
  · have hlen := All2_len hds
    have hbd := all_bd hds
    have e1 := h1.1 ds hds
    have e2 := h2.1 ds hds
    rw [List.nil_append] at e1 e2
    by_cases h60 : (ds.length : Int) > 60
    · refine .inr ⟨fun r hr => ?_, ?_, ?_⟩
      · obtain ⟨_, ms, h3, h4, _⟩ := hr
        have := All2_len h3
        omega
      · rw [hf1, e1]
        unfold dayEnd
        simp (disch := omega) only [dp, dn, decide_true, decide_false, cond_true, cond_false, Bool.not_true, Bool.not_false, Bool.true_and, Bool.false_and, Bool.and_true, Bool.and_false, Bool.true_or, Bool.false_or, Bool.or_true, Bool.or_false, wr, Option.bind_some, tn_add, tn_add1, tn_sub1, tn_0, tn_1, Int.toNat_natCast]
      · rw [hf2]
        simp (disch := omega) only [dp, dn, decide_true, decide_false, cond_true, cond_false, Bool.not_true, Bool.not_false, Bool.true_and, Bool.false_and, Bool.and_true, Bool.and_false, Bool.true_or, Bool.false_or, Bool.or_true, Bool.or_false, wr, Option.bind_some, tn_add, tn_add1, tn_sub1, tn_0, tn_1, Int.toNat_natCast]
    · obtain ⟨r, h3, h4, h5, h6, h6l⟩ := sortD_spec (y := ds) (by omega) hbd
      have hkl : (ds.map keyD).length = ds.length := List.length_map ..
      obtain ⟨q, h7, h8, h9⟩ := Sorted_spec (ds.map keyD) (by omega)
      have hqb : ∀ k ∈ q, -10000000000 ≤ k ∧ k ≤ 10000000000 := fun k hk => by
        obtain ⟨d, hd, rfl⟩ := List.mem_map.1 ((h9 k).1 hk)
        have := hbd d hd
        unfold keyD
        omega
      have hdk : ∀ d ∈ ds, decD (keyD d) = d := fun d hd => by
        have := hbd d hd
        obtain ⟨a, b, ⟨⟩⟩ := d
        unfold decD keyD
        simp only at this ⊢
        rw [show (7 * a + b) / 7 = a by omega, show (7 * a + b) % 7 = b by omega]
      have hrq : risesD (q.map decD) := by
        rw [risesD, List.pairwise_map]
        exact h8.imp fun {a b} h => by unfold dyLt decD; simp only; omega
      have hmem : ∀ x, x ∈ q.map decD ↔ x ∈ ds := fun x => by
        rw [List.mem_map]
        constructor
        · rintro ⟨k, hk, rfl⟩
          obtain ⟨d, hd, rfl⟩ := List.mem_map.1 ((h9 k).1 hk)
          rw [hdk d hd]
          exact hd
        · intro hx
          exact ⟨keyD x, (h9 _).2 (List.mem_map.2 ⟨x, hx, rfl⟩), hdk x hx⟩
      have e : q.map decD = ddsT r := risesD_uniq hrq h5 fun x => (hmem x).trans (h6 x).symm
      have hql : q.length ≤ 60 := by
        have := congrArg List.length e
        rw [List.length_map] at this
        omega
      have h10 := vd_l5 q (by omega) hqb _ 0 [] rfl (Nat.zero_le _) (Nat.le_refl _)
      rw [List.drop_zero, List.nil_append, Int.natCast_zero, e] at h10
      refine .inl ⟨ddsT r, ⟨⟨h5, by omega⟩, ds, hds, by omega, h6⟩, ?_, ?_⟩
      · rw [hf1, e1]
        unfold dayEnd
        simp (disch := omega) only [dp, dn, decide_true, decide_false, cond_true, cond_false, Bool.not_true, Bool.not_false, Bool.true_and, Bool.false_and, Bool.and_true, Bool.and_false, Bool.true_or, Bool.false_or, Bool.or_true, Bool.or_false, wr, Option.bind_some, tn_add, tn_add1, tn_sub1, tn_0, tn_1, Int.toNat_natCast, h3, dcompact_spec r (by omega)]
      · rw [hf2, e2]
        unfold vdEnd
        simp (disch := omega) only [dp, dn, decide_true, decide_false, cond_true, cond_false, Bool.not_true, Bool.not_false, Bool.true_and, Bool.false_and, Bool.and_true, Bool.and_false, Bool.true_or, Bool.false_or, Bool.or_true, Bool.or_false, wr, Option.bind_some, tn_add, tn_add1, tn_sub1, tn_0, tn_1, Int.toNat_natCast, h7, h10]
  · refine .inr ⟨fun r hr => ?_, ?_, ?_⟩
    · obtain ⟨_, ms, h3, _, _⟩ := hr
      obtain ⟨s, hs, hs2⟩ := hbad
      have : ∀ (p : List (List UInt8)) (ms : List Dy), All2 isDy p ms → s ∈ p → ∃ n w, isD s n w := by
        intro p
        induction p with
        | nil => intro ms _ h; cases h
        | cons t p ih =>
          intro ms h hm
          cases ms with
          | nil => exact h.elim
          | cons m ms =>
            rcases List.mem_cons.1 hm with rfl | hm
            · exact ⟨_, _, h.1⟩
            · exact ih ms h.2 hm
      obtain ⟨n, w, hn⟩ := this _ ms h3 hs
      exact hs2 n w hn
    · rw [hf1, h1.2 hbad]
    · rw [hf2, h2.2 hbad]
      cases decide (((segs 44 v).length : Int) > 60) <;> rfl
end Go.GV.YtkkfgajlnpcpcaaGreatDoor
