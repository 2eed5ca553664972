/-
What iv.Norm and the document's Norm come to: the one list of spans, apart and rising, that covers the same. (This session's own text.)
-/
import Derived.Test.YtpffinebjiopaaaK0
import Derived.Test.YtpffinebjiopaaaGvList
set_option linter.unusedVariables false
set_option linter.unusedSimpArgs false
namespace Go.GV.Ytpffinebjiopaaa
open Go.Proofs
abbrev Sp := Int × Int × Unit
abbrev Tg := (Int × Int × Unit) × Int × Unit
/-! ### Spans apart, and what they cover -/
def cov (l : List Sp) (t : Int) : Prop := ∃ s ∈ l, s.1 ≤ t ∧ t < s.2.1
def nrm (l : List Sp) : Prop := l.Pairwise (fun a b => a.2.1 < b.1) ∧ ∀ s ∈ l, s.1 < s.2.1
theorem cov_nil (t : Int) : ¬ cov [] t := fun ⟨s, h, _⟩ => by cases h
theorem cov_cons (s : Sp) (l : List Sp) (t : Int) : cov (s :: l) t ↔ (s.1 ≤ t ∧ t < s.2.1) ∨ cov l t := by simp [cov]
theorem cov_app (a b : List Sp) (t : Int) : cov (a ++ b) t ↔ cov a t ∨ cov b t := by
  unfold cov
  constructor
  · rintro ⟨s, h, h2⟩
    rcases List.mem_append.1 h with h | h
    · exact .inl ⟨s, h, h2⟩
    · exact .inr ⟨s, h, h2⟩
  · rintro (⟨s, h, h2⟩ | ⟨s, h, h2⟩)
    · exact ⟨s, List.mem_append_left _ h, h2⟩
    · exact ⟨s, List.mem_append_right _ h, h2⟩
theorem cov_perm {a b : List Sp} (h : a.Perm b) (t : Int) : cov a t ↔ cov b t := by simp only [cov, h.mem_iff]
theorem nrm_tail {s : Sp} {l : List Sp} (h : nrm (s :: l)) : nrm l := ⟨(List.pairwise_cons.1 h.1).2, fun x hx => h.2 x (List.mem_cons_of_mem _ hx)⟩
/-- What lies behind the first span's end. -/
theorem nrm_cov {s : Sp} {l : List Sp} (h : nrm (s :: l)) {t : Int} (ht : cov l t) : s.2.1 < t := by
  obtain ⟨x, hx, h1, h2⟩ := ht
  have := (List.pairwise_cons.1 h.1).1 x hx
  omega
theorem nrm_uniq : ∀ {a b : List Sp}, nrm a → nrm b → (∀ t, cov a t ↔ cov b t) → a = b
  | [], [], _, _, _ => rfl
  | [], y :: b, _, hb, h => absurd ((h y.1).2 ((cov_cons _ _ _).2 (.inl ⟨Int.le_refl _, hb.2 y List.mem_cons_self⟩))) (cov_nil _)
  | x :: a, [], ha, _, h => absurd ((h x.1).1 ((cov_cons _ _ _).2 (.inl ⟨Int.le_refl _, ha.2 x List.mem_cons_self⟩))) (cov_nil _)
  | x :: a, y :: b, ha, hb, h => by
    have hx := ha.2 x List.mem_cons_self
    have hy := hb.2 y List.mem_cons_self
    have lo : x.1 = y.1 := by
      have h1 := (h x.1).1 ((cov_cons _ _ _).2 (.inl ⟨Int.le_refl _, hx⟩))
      have h2 := (h y.1).2 ((cov_cons _ _ _).2 (.inl ⟨Int.le_refl _, hy⟩))
      rw [cov_cons] at h1 h2
      rcases h1 with h1 | h1 <;> rcases h2 with h2 | h2
      · omega
      · have := nrm_cov ha h2; omega
      · have := nrm_cov hb h1; omega
      · have := nrm_cov ha h2; have := nrm_cov hb h1; omega
    have hi : x.2.1 = y.2.1 := by
      rcases Int.lt_trichotomy x.2.1 y.2.1 with h1 | h1 | h1
      · have h2 := (h x.2.1).2 ((cov_cons _ _ _).2 (.inl ⟨by omega, h1⟩))
        rw [cov_cons] at h2
        rcases h2 with h2 | h2
        · omega
        · have := nrm_cov ha h2; omega
      · exact h1
      · have h2 := (h y.2.1).1 ((cov_cons _ _ _).2 (.inl ⟨by omega, h1⟩))
        rw [cov_cons] at h2
        rcases h2 with h2 | h2
        · omega
        · have := nrm_cov hb h2; omega
    have e : x = y := by
      obtain ⟨x1, x2, x3⟩ := x
      obtain ⟨y1, y2, y3⟩ := y
      simp only at lo hi
      rw [lo, hi]
    subst e
    rw [nrm_uniq (nrm_tail ha) (nrm_tail hb) fun t => ?_]
    have := h t
    rw [cov_cons, cov_cons] at this
    constructor
    · intro h1
      rcases this.1 (.inr h1) with h2 | h2
      · have := nrm_cov ha h1; omega
      · exact h2
    · intro h1
      rcases this.2 (.inr h1) with h2 | h2
      · have := nrm_cov hb h1; omega
      · exact h2
/-! ### Put together one behind the other -/
def push (out : List Sp) (s : Sp) : List Sp := match out.getLast? with
  | none => [s]
  | some p => if s.1 ≤ p.2.1 then out.dropLast ++ [(p.1, mm true p.2.1 s.2.1, ())] else out ++ [s]
theorem push_nil (s : Sp) : push [] s = [s] := rfl
theorem push_snoc (o : List Sp) (p s : Sp) : push (o ++ [p]) s = if s.1 ≤ p.2.1 then o ++ [(p.1, mm true p.2.1 s.2.1, ())] else o ++ [p] ++ [s] := by simp [push]
theorem push_len (out : List Sp) (s : Sp) : (push out s).length ≤ out.length + 1 := by
  rcases snoc_cases out with rfl | ⟨o, p, rfl⟩
  · simp [push]
  · rw [push_snoc]; split <;> simp
/-- What has been put together is apart, and reaches as far as what comes. -/
structure Put (out : List Sp) (v : Int) : Prop where
  nrm : nrm out
  lo : ∀ s ∈ out, s.1 ≤ v
theorem push_put {out : List Sp} {s : Sp} (h : Put out s.1) (hs : s.1 < s.2.1) : Put (push out s) s.1 ∧ ∀ t, cov (push out s) t ↔ cov out t ∨ (s.1 ≤ t ∧ t < s.2.1) := by
  rcases snoc_cases out with rfl | ⟨o, p, rfl⟩
  · rw [push_nil]
    exact ⟨⟨⟨List.pairwise_singleton _ _, fun x hx => by simp at hx; subst hx; exact hs⟩, fun x hx => by simp at hx; subst hx; exact Int.le_refl _⟩, fun t => by rw [cov_cons]; constructor <;> rintro (h | h) <;> first | exact .inr h | exact absurd h (cov_nil _) | exact .inl h⟩
  · have hp := h.nrm.2 p (by simp)
    have hpl := h.lo p (by simp)
    have ho := List.pairwise_append.1 h.nrm.1
    rw [push_snoc, mm_max]
    by_cases hc : s.1 ≤ p.2.1
    · rw [if_pos hc]
      refine ⟨⟨⟨List.pairwise_append.2 ⟨ho.1, List.pairwise_singleton _ _, fun a ha b hb => ?_⟩, fun x hx => ?_⟩, fun x hx => ?_⟩, fun t => ?_⟩
      · simp at hb; subst hb; exact ho.2.2 a ha p (by simp)
      · rcases List.mem_append.1 hx with hx | hx
        · exact h.nrm.2 x (by simp [hx])
        · simp at hx; subst hx; show p.1 < max p.2.1 s.2.1; omega
      · rcases List.mem_append.1 hx with hx | hx
        · exact h.lo x (by simp [hx])
        · simp at hx; subst hx; exact hpl
      · rw [cov_app, cov_app, cov_cons, cov_cons]
        show cov o t ∨ (p.1 ≤ t ∧ t < max p.2.1 s.2.1) ∨ cov [] t ↔ _
        have := cov_nil t
        constructor
        · rintro (h1 | h1 | h1)
          · exact .inl (.inl h1)
          · by_cases h2 : t < p.2.1
            · exact .inl (.inr (.inl ⟨h1.1, h2⟩))
            · exact .inr ⟨by omega, by omega⟩
          · exact absurd h1 this
        · rintro ((h1 | h1 | h1) | h1)
          · exact .inl h1
          · exact .inr (.inl ⟨h1.1, by omega⟩)
          · exact absurd h1 this
          · exact .inr (.inl ⟨by omega, by omega⟩)
    · rw [if_neg hc]
      refine ⟨⟨⟨List.pairwise_append.2 ⟨h.nrm.1, List.pairwise_singleton _ _, fun a ha b hb => ?_⟩, fun x hx => ?_⟩, fun x hx => ?_⟩, fun t => ?_⟩
      · simp at hb
        subst hb
        rcases List.mem_append.1 ha with ha | ha
        · have := ho.2.2 a ha p (by simp); omega
        · simp at ha; subst ha; omega
      · rcases List.mem_append.1 hx with hx | hx
        · exact h.nrm.2 x hx
        · simp at hx; subst hx; exact hs
      · rcases List.mem_append.1 hx with hx | hx
        · exact h.lo x hx
        · simp at hx; subst hx; exact Int.le_refl _
      · rw [cov_app (o ++ [p]), cov_cons]
        have := cov_nil t
        constructor
        · rintro (h1 | h1 | h1)
          · exact .inl h1
          · exact .inr h1
          · exact absurd h1 this
        · rintro (h1 | h1)
          · exact .inl h1
          · exact .inr (.inl h1)
theorem fold_put : ∀ (l out : List Sp), (∀ s ∈ l, s.1 < s.2.1) → l.Pairwise (fun a b => a.1 ≤ b.1) → nrm out → (∀ s ∈ l, ∀ a ∈ out, a.1 ≤ s.1) → nrm (l.foldl push out) ∧ ∀ t, cov (l.foldl push out) t ↔ cov out t ∨ cov l t
  | [], out, _, _, hn, _ => ⟨hn, fun t => ⟨.inl, fun h => h.elim id fun h => absurd h (cov_nil t)⟩⟩
  | s :: l, out, h1, h2, hn, h3 => by
    rw [List.pairwise_cons] at h2
    obtain ⟨h4, h5⟩ := push_put (out := out) (s := s) ⟨hn, h3 s List.mem_cons_self⟩ (h1 s List.mem_cons_self)
    obtain ⟨h6, h7⟩ := fold_put l (push out s) (fun x hx => h1 x (List.mem_cons_of_mem _ hx)) h2.2 h4.nrm fun x hx a ha => Int.le_trans (h4.lo a ha) (h2.1 x hx)
    refine ⟨h6, fun t => ?_⟩
    rw [List.foldl_cons, h7, h5, cov_cons, or_assoc]
theorem fold_len : ∀ (l out : List Sp), (l.foldl push out).length ≤ out.length + l.length
  | [], _ => by simp
  | s :: l, out => by
    have h1 := fold_len l (push out s)
    have h2 := push_len out s
    simp only [List.foldl_cons, List.length_cons]
    omega
/-! ### iv.Norm -/
def fl (s : Sp) : Bool := decide (s.2.1 > s.1)
theorem sort_spec (l : List Sp) (h : l.length ≤ 1000000) : ∃ r, slices_SortFunc_api_Span_api_Span.f l () = some (r, (), ()) ∧ r.Perm l ∧ r.Pairwise (fun x y => x.1 ≤ y.1) := by
  refine ⟨sortBy (0, 0, ()) cf34 l, ?_, sortBy_perm _ swo34 l, ?_⟩
  · rw [slices_SortFunc_api_Span_api_Span.f_sem]
    show (bif decide (List.length l ≤ limit) then some (sortBy (0, 0, ()) cf34 l, (), ()) else none) = _
    rw [dp (by simp only [limit]; omega), cond_true]
  · refine (sortBy_sorted _ swo34 l).imp fun {x y} h => ?_
    have h2 := lt_lo y.1 x.1
    have h3 : decide (loCmp y.1 x.1 < 0) = false := decide_eq_false h
    rw [h3] at h2
    have := of_decide_eq_false h2.symm
    omega
theorem norm_l1 (l out : List Sp) (hl : l.length ≤ 1000000) : ∀ (k i : Nat) (acc : List Sp), l.length - i = k → i ≤ l.length → acc.length ≤ i →
    iv_Norm.l1 l l.length i acc out = (slices_SortFunc_api_Span_api_Span.f (acc ++ (l.drop i).filter fl) ()).bind fun t => iv_Norm.l2 (t.1.length : Int) 0 out t.1 := by
  have hlim : limit = 17179869184 := rfl
  intro k
  induction k with
  | zero =>
    intro i acc hk hi ha
    have e : i = l.length := by omega
    subst e
    rw [iv_Norm.l1_eq]
    simp (disch := omega) only [dp, dn, decide_true, decide_false, cond_true, cond_false, Bool.not_true, Bool.not_false, Bool.true_and, Bool.false_and, Bool.and_true, Bool.and_false, Bool.true_or, Bool.false_or, Bool.or_true, Bool.or_false, wr, Option.bind_some, tn_add, tn_add1, tn_sub1, tn_0, tn_1, Int.toNat_natCast, List.drop_length, List.filter_nil, List.append_nil]
  | succ k ih =>
    intro i acc hk hi ha
    have hlt : i < l.length := by omega
    rw [iv_Norm.l1_eq, drop_getD' (0, 0, ()) hlt]
    have hs : ∀ s : Sp, (s.1, s.2.1, ()) = s := fun s => rfl
    by_cases hc : (l.getD i (0, 0, ())).2.1 > (l.getD i (0, 0, ())).1
    · have hf : fl (l.getD i (0, 0, ())) = true := dp hc
      simp (disch := omega) only [dp, dn, decide_true, decide_false, cond_true, cond_false, Bool.not_true, Bool.not_false, Bool.true_and, Bool.false_and, Bool.and_true, Bool.and_false, Bool.true_or, Bool.false_or, Bool.or_true, Bool.or_false, wr, Option.bind_some, tn_add, tn_add1, tn_sub1, tn_0, tn_1, Int.toNat_natCast, List.length_singleton, hlim, hs, List.filter_cons, hf, if_true]
      exact (ih (i + 1) (acc ++ [l.getD i (0, 0, ())]) (by omega) (by omega) (by simp; omega)).trans (by simp)
    · have hf : fl (l.getD i (0, 0, ())) = false := dn hc
      simp (disch := omega) only [dp, dn, decide_true, decide_false, cond_true, cond_false, Bool.not_true, Bool.not_false, Bool.true_and, Bool.false_and, Bool.and_true, Bool.and_false, Bool.true_or, Bool.false_or, Bool.or_true, Bool.or_false, wr, Option.bind_some, tn_add, tn_add1, tn_sub1, tn_0, tn_1, Int.toNat_natCast, List.length_singleton, hlim, hs, List.filter_cons, hf, Bool.false_eq_true, if_false]
      exact ih (i + 1) acc (by omega) (by omega) (by omega)
theorem norm_l2 (inn : List Sp) (hl : inn.length ≤ 1000000) : ∀ (k i : Nat) (out : List Sp), inn.length - i = k → i ≤ inn.length → out.length ≤ i →
    iv_Norm.l2 inn.length i out inn = some ((inn.drop i).foldl push out, ()) := by
  have hlim : limit = 17179869184 := rfl
  intro k
  induction k with
  | zero =>
    intro i out hk hi ho
    have e : i = inn.length := by omega
    subst e
    rw [iv_Norm.l2_eq]
    simp (disch := omega) only [dp, dn, decide_true, decide_false, cond_true, cond_false, Bool.not_true, Bool.not_false, Bool.true_and, Bool.false_and, Bool.and_true, Bool.and_false, Bool.true_or, Bool.false_or, Bool.or_true, Bool.or_false, wr, Option.bind_some, tn_add, tn_add1, tn_sub1, tn_0, tn_1, Int.toNat_natCast, List.drop_length, List.foldl_nil]
  | succ k ih =>
    intro i out hk hi ho
    have hlt : i < inn.length := by omega
    have hs : ∀ s : Sp, (s.1, s.2.1, ()) = s := fun s => rfl
    rw [iv_Norm.l2_eq, drop_getD' (0, 0, ()) hlt, List.foldl_cons]
    have hpl := push_len out (inn.getD i (0, 0, ()))
    rw [← ih (i + 1) (push out (inn.getD i (0, 0, ()))) (by omega) (by omega) (by omega)]
    rcases snoc_cases out with rfl | ⟨o, p, rfl⟩
    · rw [push_nil]
      simp (disch := omega) only [dp, dn, decide_true, decide_false, cond_true, cond_false, Bool.not_true, Bool.not_false, Bool.true_and, Bool.false_and, Bool.and_true, Bool.and_false, Bool.true_or, Bool.false_or, Bool.or_true, Bool.or_false, wr, Option.bind_some, tn_add, tn_add1, tn_sub1, tn_0, tn_1, Int.toNat_natCast, List.length_nil, Int.natCast_zero, iv_Norm.l3_eq, List.length_singleton, List.nil_append, hs, hlim]
      rfl
    · rw [len_snoc] at ho
      rw [push_snoc]
      simp (disch := omega) only [dp, dn, decide_true, decide_false, cond_true, cond_false, Bool.not_true, Bool.not_false, Bool.true_and, Bool.false_and, Bool.and_true, Bool.and_false, Bool.true_or, Bool.false_or, Bool.or_true, Bool.or_false, wr, Option.bind_some, tn_add, tn_add1, tn_sub1, tn_0, tn_1, Int.toNat_natCast, len_snoc, Int.natCast_add, Int.natCast_one, Int.add_sub_cancel, iv_Norm.l3_eq, List.length_singleton, hs, getD_snoc, set_snoc, hlim]
      by_cases hc : (inn.getD i (0, 0, ())).1 ≤ p.2.1
      · simp (disch := omega) only [dp, dn, decide_true, decide_false, cond_true, cond_false, Bool.not_true, Bool.not_false, Bool.true_and, Bool.false_and, Bool.and_true, Bool.and_false, Bool.true_or, Bool.false_or, Bool.or_true, Bool.or_false, wr, Option.bind_some, tn_add, tn_add1, tn_sub1, tn_0, tn_1, Int.toNat_natCast, if_pos hc]
      · simp (disch := omega) only [dp, dn, decide_true, decide_false, cond_true, cond_false, Bool.not_true, Bool.not_false, Bool.true_and, Bool.false_and, Bool.and_true, Bool.and_false, Bool.true_or, Bool.false_or, Bool.or_true, Bool.or_false, wr, Option.bind_some, tn_add, tn_add1, tn_sub1, tn_0, tn_1, Int.toNat_natCast, if_neg hc]
theorem norm_spec (l : List Sp) (hl : l.length ≤ 1000000) : ∃ r, iv_Norm.f l = some (r, ()) ∧ nrm r ∧ (∀ t, cov r t ↔ cov l t) ∧ r.length ≤ l.length := by
  have hfl : (l.filter fl).length ≤ l.length := List.length_filter_le _ _
  obtain ⟨r, h1, h2, h3⟩ := sort_spec (l.filter fl) (by omega)
  have hrl : r.length = (l.filter fl).length := h2.length_eq
  have hne : ∀ s ∈ r, s.1 < s.2.1 := fun s hs => by
    have := (List.mem_filter.1 (h2.mem_iff.1 hs)).2
    exact of_decide_eq_true this
  obtain ⟨h4, h5⟩ := fold_put r [] hne h3 ⟨List.Pairwise.nil, fun s h => by cases h⟩ fun s _ a h => by cases h
  refine ⟨r.foldl push [], ?_, h4, fun t => ?_, ?_⟩
  · rw [iv_Norm.f_eq]
    have := norm_l1 l [] hl _ 0 [] rfl (Nat.zero_le _) (Nat.le_refl _)
    rw [show ((0 : Nat) : Int) = 0 from rfl] at this
    rw [this, List.drop_zero, List.nil_append, h1, Option.bind_some]
    have := norm_l2 r (by omega) _ 0 [] rfl (Nat.zero_le _) (Nat.le_refl _)
    rw [List.drop_zero, show ((0 : Nat) : Int) = 0 from rfl] at this
    exact this
  · rw [h5, cov_perm h2]
    constructor
    · rintro (h | ⟨s, h, h6⟩)
      · exact absurd h (cov_nil t)
      · exact ⟨s, (List.mem_filter.1 h).1, h6⟩
    · rintro ⟨s, h, h6⟩
      exact .inr ⟨s, List.mem_filter.2 ⟨h, dp (by omega)⟩, h6⟩
  · have := fold_len r []
    simp at this
    omega
/-! ### The document's Norm -/
theorem rnorm_l2 (x0 : List Sp) (i : Nat) (hi : i < x0.length) (hx : x0.length ≤ 1000000) (y0 : List Sp) (hy : y0.length ≤ 1000000) : ∀ k : Nat, k ≤ y0.length →
    ∃ k' : Nat, k' ≤ k ∧ vokref6_Norm.l2 x0 i k y0 = vokref6_Norm.l4 x0 i k' y0 ∧ (∀ j, k' ≤ j → j < k → (x0.getD i (0, 0, ())).1 < (y0.getD j (0, 0, ())).1) ∧ (k' = 0 ∨ (y0.getD (k' - 1) (0, 0, ())).1 ≤ (x0.getD i (0, 0, ())).1) := by
  intro k
  induction k with
  | zero =>
    intro _
    refine ⟨0, Nat.le_refl _, ?_, fun j h1 h2 => by omega, .inl rfl⟩
    rw [vokref6_Norm.l2_eq]
    simp (disch := omega) only [dp, dn, decide_true, decide_false, cond_true, cond_false, Bool.not_true, Bool.not_false, Bool.true_and, Bool.false_and, Bool.and_true, Bool.and_false, Bool.true_or, Bool.false_or, Bool.or_true, Bool.or_false, wr, Option.bind_some, tn_add, tn_add1, tn_sub1, tn_0, tn_1, Int.toNat_natCast, vokref6_Norm.l3_eq, Int.natCast_zero]
  | succ k ih =>
    intro hk
    rw [vokref6_Norm.l2_eq]
    simp (disch := omega) only [dp, dn, decide_true, decide_false, cond_true, cond_false, Bool.not_true, Bool.not_false, Bool.true_and, Bool.false_and, Bool.and_true, Bool.and_false, Bool.true_or, Bool.false_or, Bool.or_true, Bool.or_false, wr, Option.bind_some, tn_add, tn_add1, tn_sub1, tn_0, tn_1, Int.toNat_natCast, vokref6_Norm.l3_eq, Int.natCast_add, Int.natCast_one, Int.add_sub_cancel]
    by_cases hc : (y0.getD k (0, 0, ())).1 > (x0.getD i (0, 0, ())).1
    · simp (disch := omega) only [dp, dn, decide_true, decide_false, cond_true, cond_false, Bool.not_true, Bool.not_false, Bool.true_and, Bool.false_and, Bool.and_true, Bool.and_false, Bool.true_or, Bool.false_or, Bool.or_true, Bool.or_false, wr, Option.bind_some, tn_add, tn_add1, tn_sub1, tn_0, tn_1, Int.toNat_natCast]
      obtain ⟨k', h1, h2, h3, h4⟩ := ih (by omega)
      refine ⟨k', by omega, h2, fun j hj1 hj2 => ?_, h4⟩
      by_cases hjk : j = k
      · subst hjk; exact hc
      · exact h3 j hj1 (by omega)
    · simp (disch := omega) only [dp, dn, decide_true, decide_false, cond_true, cond_false, Bool.not_true, Bool.not_false, Bool.true_and, Bool.false_and, Bool.and_true, Bool.and_false, Bool.true_or, Bool.false_or, Bool.or_true, Bool.or_false, wr, Option.bind_some, tn_add, tn_add1, tn_sub1, tn_0, tn_1, Int.toNat_natCast]
      exact ⟨k + 1, Nat.le_refl _, rfl, fun j h1 h2 => by omega, .inr (by rw [Nat.add_sub_cancel]; omega)⟩
theorem rnorm_l1 (x0 : List Sp) (hx : x0.length ≤ 1000000) : ∀ (k i : Nat) (y0 : List Sp), x0.length - i = k → i ≤ x0.length → y0.length ≤ i → y0.Pairwise (fun a b => a.1 ≤ b.1) →
    ∃ r, vokref6_Norm.l1 x0 i y0 = vokref6_Norm.l5 0 r [] ∧ r.Perm (y0 ++ (x0.drop i).filter fl) ∧ r.Pairwise (fun a b => a.1 ≤ b.1) := by
  have hlim : limit = 17179869184 := rfl
  intro k
  induction k with
  | zero =>
    intro i y0 hk hi hy hs
    have e : i = x0.length := by omega
    subst e
    refine ⟨y0, ?_, by simp, hs⟩
    rw [vokref6_Norm.l1_eq]
    simp (disch := omega) only [dp, dn, decide_true, decide_false, cond_true, cond_false, Bool.not_true, Bool.not_false, Bool.true_and, Bool.false_and, Bool.and_true, Bool.and_false, Bool.true_or, Bool.false_or, Bool.or_true, Bool.or_false, wr, Option.bind_some, tn_add, tn_add1, tn_sub1, tn_0, tn_1, Int.toNat_natCast]
  | succ k ih =>
    intro i y0 hk hi hy hs
    have hlt : i < x0.length := by omega
    have hse : ∀ s : Sp, (s.1, s.2.1, ()) = s := fun s => rfl
    rw [vokref6_Norm.l1_eq, drop_getD' (0, 0, ()) hlt]
    simp (disch := omega) only [dp, dn, decide_true, decide_false, cond_true, cond_false, Bool.not_true, Bool.not_false, Bool.true_and, Bool.false_and, Bool.and_true, Bool.and_false, Bool.true_or, Bool.false_or, Bool.or_true, Bool.or_false, wr, Option.bind_some, tn_add, tn_add1, tn_sub1, tn_0, tn_1, Int.toNat_natCast, List.filter_cons]
    by_cases hc : (x0.getD i (0, 0, ())).2.1 ≤ (x0.getD i (0, 0, ())).1
    · have hf : fl (x0.getD i (0, 0, ())) = false := dn (by omega)
      simp (disch := omega) only [dp, dn, decide_true, decide_false, cond_true, cond_false, Bool.not_true, Bool.not_false, Bool.true_and, Bool.false_and, Bool.and_true, Bool.and_false, Bool.true_or, Bool.false_or, Bool.or_true, Bool.or_false, wr, Option.bind_some, tn_add, tn_add1, tn_sub1, tn_0, tn_1, Int.toNat_natCast, hf, Bool.false_eq_true, if_false]
      obtain ⟨r, h1, h2, h3⟩ := ih (i + 1) y0 (by omega) (by omega) (by omega) hs
      exact ⟨r, h1, h2, h3⟩
    · have hf : fl (x0.getD i (0, 0, ())) = true := dp (by omega)
      simp (disch := omega) only [dp, dn, decide_true, decide_false, cond_true, cond_false, Bool.not_true, Bool.not_false, Bool.true_and, Bool.false_and, Bool.and_true, Bool.and_false, Bool.true_or, Bool.false_or, Bool.or_true, Bool.or_false, wr, Option.bind_some, tn_add, tn_add1, tn_sub1, tn_0, tn_1, Int.toNat_natCast, hf, if_true]
      obtain ⟨q, h1, h2, h3, h4⟩ := rnorm_l2 x0 i hlt hx y0 (by omega) y0.length (Nat.le_refl _)
      obtain ⟨h5, h6⟩ := ins_place (fun s : Sp => s.1) hs (x0.getD i (0, 0, ())).1 (0, 0, ()) h1 h3 h4
      rw [h2, vokref6_Norm.l4_eq]
      simp (disch := omega) only [dp, dn, decide_true, decide_false, cond_true, cond_false, Bool.not_true, Bool.not_false, Bool.true_and, Bool.false_and, Bool.and_true, Bool.and_false, Bool.true_or, Bool.false_or, Bool.or_true, Bool.or_false, wr, Option.bind_some, tn_add, tn_add1, tn_sub1, tn_0, tn_1, Int.toNat_natCast, hse, hlim, List.length_singleton, List.length_append, List.length_take, List.length_drop]
      have hp := ins_perm y0 (x0.getD i (0, 0, ())) q
      obtain ⟨r, h7, h8, h9⟩ := ih (i + 1) (y0.take q ++ ([x0.getD i (0, 0, ())] ++ y0.drop q)) (by omega) (by omega) (by rw [hp.length_eq]; simp; omega) (ins_sorted hs h5 fun a ha => Int.le_of_lt (h6 a ha))
      refine ⟨r, h7, h8.trans ?_, h9⟩
      refine (hp.append_right _).trans ?_
      rw [List.cons_append]
      exact List.perm_middle.symm
theorem rnorm_l5 (inn : List Sp) (hl : inn.length ≤ 1000000) : ∀ (k i : Nat) (out : List Sp), inn.length - i = k → i ≤ inn.length → out.length ≤ i →
    vokref6_Norm.l5 i inn out = some ((inn.drop i).foldl push out, ()) := by
  have hlim : limit = 17179869184 := rfl
  intro k
  induction k with
  | zero =>
    intro i out hk hi ho
    have e : i = inn.length := by omega
    subst e
    rw [vokref6_Norm.l5_eq]
    simp (disch := omega) only [dp, dn, decide_true, decide_false, cond_true, cond_false, Bool.not_true, Bool.not_false, Bool.true_and, Bool.false_and, Bool.and_true, Bool.and_false, Bool.true_or, Bool.false_or, Bool.or_true, Bool.or_false, wr, Option.bind_some, tn_add, tn_add1, tn_sub1, tn_0, tn_1, Int.toNat_natCast, List.drop_length, List.foldl_nil]
  | succ k ih =>
    intro i out hk hi ho
    have hlt : i < inn.length := by omega
    have hs : ∀ s : Sp, (s.1, s.2.1, ()) = s := fun s => rfl
    rw [vokref6_Norm.l5_eq, drop_getD' (0, 0, ()) hlt, List.foldl_cons]
    have hpl := push_len out (inn.getD i (0, 0, ()))
    rw [← ih (i + 1) (push out (inn.getD i (0, 0, ()))) (by omega) (by omega) (by omega)]
    rcases snoc_cases out with rfl | ⟨o, p, rfl⟩
    · rw [push_nil]
      simp (disch := omega) only [dp, dn, decide_true, decide_false, cond_true, cond_false, Bool.not_true, Bool.not_false, Bool.true_and, Bool.false_and, Bool.and_true, Bool.and_false, Bool.true_or, Bool.false_or, Bool.or_true, Bool.or_false, wr, Option.bind_some, tn_add, tn_add1, tn_sub1, tn_0, tn_1, Int.toNat_natCast, List.length_nil, Int.natCast_zero, vokref6_Norm.l6_eq, List.length_singleton, List.nil_append, hs, hlim]
      rfl
    · rw [len_snoc] at ho
      rw [push_snoc]
      simp (disch := omega) only [dp, dn, decide_true, decide_false, cond_true, cond_false, Bool.not_true, Bool.not_false, Bool.true_and, Bool.false_and, Bool.and_true, Bool.and_false, Bool.true_or, Bool.false_or, Bool.or_true, Bool.or_false, wr, Option.bind_some, tn_add, tn_add1, tn_sub1, tn_0, tn_1, Int.toNat_natCast, len_snoc, Int.natCast_add, Int.natCast_one, Int.add_sub_cancel, vokref6_Norm.l6_eq, List.length_singleton, hs, getD_snoc, set_snoc, hlim]
      by_cases hc : (inn.getD i (0, 0, ())).1 ≤ p.2.1
      · simp (disch := omega) only [dp, dn, decide_true, decide_false, cond_true, cond_false, Bool.not_true, Bool.not_false, Bool.true_and, Bool.false_and, Bool.and_true, Bool.and_false, Bool.true_or, Bool.false_or, Bool.or_true, Bool.or_false, wr, Option.bind_some, tn_add, tn_add1, tn_sub1, tn_0, tn_1, Int.toNat_natCast, if_pos hc]
      · simp (disch := omega) only [dp, dn, decide_true, decide_false, cond_true, cond_false, Bool.not_true, Bool.not_false, Bool.true_and, Bool.false_and, Bool.and_true, Bool.and_false, Bool.true_or, Bool.false_or, Bool.or_true, Bool.or_false, wr, Option.bind_some, tn_add, tn_add1, tn_sub1, tn_0, tn_1, Int.toNat_natCast, if_neg hc]
theorem rnorm_spec (l : List Sp) (hl : l.length ≤ 1000000) : ∃ r, vokref6_Norm.f l = some (r, ()) ∧ nrm r ∧ (∀ t, cov r t ↔ cov l t) ∧ r.length ≤ l.length := by
  have hfl : (l.filter fl).length ≤ l.length := List.length_filter_le _ _
  obtain ⟨r, h1, h2, h3⟩ := rnorm_l1 l hl _ 0 [] rfl (Nat.zero_le _) (Nat.le_refl _) List.Pairwise.nil
  rw [List.nil_append, List.drop_zero] at h2
  have hrl : r.length = (l.filter fl).length := h2.length_eq
  have hne : ∀ s ∈ r, s.1 < s.2.1 := fun s hs => by
    have := (List.mem_filter.1 (h2.mem_iff.1 hs)).2
    exact of_decide_eq_true this
  obtain ⟨h4, h5⟩ := fold_put r [] hne h3 ⟨List.Pairwise.nil, fun s h => by cases h⟩ fun s _ a h => by cases h
  refine ⟨r.foldl push [], ?_, h4, fun t => ?_, ?_⟩
  · rw [vokref6_Norm.f_eq]
    rw [show ((0 : Nat) : Int) = 0 from rfl] at h1
    rw [h1]
    have := rnorm_l5 r (by omega) _ 0 [] rfl (Nat.zero_le _) (Nat.le_refl _)
    rw [List.drop_zero, show ((0 : Nat) : Int) = 0 from rfl] at this
    exact this
  · rw [h5, cov_perm h2]
    constructor
    · rintro (h | ⟨s, h, h6⟩)
      · exact absurd h (cov_nil t)
      · exact ⟨s, (List.mem_filter.1 h).1, h6⟩
    · rintro ⟨s, h, h6⟩
      exact .inr ⟨s, List.mem_filter.2 ⟨h, dp (by omega)⟩, h6⟩
  · have := fold_len r []
    simp at this
    omega
theorem norm_same (l : List Sp) (hl : l.length ≤ 1000000) : vokref6_Norm.f l = iv_Norm.f l := by
  obtain ⟨r, h1, h2, h3, _⟩ := norm_spec l hl
  obtain ⟨q, h4, h5, h6, _⟩ := rnorm_spec l hl
  rw [h1, h4, nrm_uniq h5 h2 fun t => (h6 t).trans (h3 t).symm]
/-! ### Lists that are alike -/
theorem spans_same (a : List Sp) (ha : a.length ≤ 1000000) : vokref_Spans.f a a = some (true, ()) := by
  have key : ∀ (k i : Nat), a.length - i = k → i ≤ a.length → vokref_Spans.l1 a a i = some (true, ()) := by
    intro k
    induction k with
    | zero =>
      intro i hk hi
      rw [vokref_Spans.l1_eq]
      simp (disch := omega) only [dp, dn, decide_true, decide_false, cond_true, cond_false, Bool.not_true, Bool.not_false, Bool.true_and, Bool.false_and, Bool.and_true, Bool.and_false, Bool.true_or, Bool.false_or, Bool.or_true, Bool.or_false, wr, Option.bind_some, tn_add, tn_add1, tn_sub1, tn_0, tn_1, Int.toNat_natCast]
    | succ k ih =>
      intro i hk hi
      rw [vokref_Spans.l1_eq]
      simp (disch := omega) only [dp, dn, decide_true, decide_false, cond_true, cond_false, Bool.not_true, Bool.not_false, Bool.true_and, Bool.false_and, Bool.and_true, Bool.and_false, Bool.true_or, Bool.false_or, Bool.or_true, Bool.or_false, wr, Option.bind_some, tn_add, tn_add1, tn_sub1, tn_0, tn_1, Int.toNat_natCast, vokref_Spans.l2_eq]
      exact ih (i + 1) (by omega) (by omega)
  rw [vokref_Spans.f_eq]
  have := key _ 0 rfl (Nat.zero_le _)
  rw [show ((0 : Nat) : Int) = 0 from rfl] at this
  simp (disch := omega) only [dp, dn, decide_true, decide_false, cond_true, cond_false, Bool.not_true, Bool.not_false, Bool.true_and, Bool.false_and, Bool.and_true, Bool.and_false, Bool.true_or, Bool.false_or, Bool.or_true, Bool.or_false, wr, Option.bind_some, tn_add, tn_add1, tn_sub1, tn_0, tn_1, Int.toNat_natCast, this]
end Go.GV.Ytpffinebjiopaaa
