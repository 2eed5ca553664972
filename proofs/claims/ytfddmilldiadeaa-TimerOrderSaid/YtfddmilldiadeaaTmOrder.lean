/-
TimerOrder: popped in order, each as often. (This session's own text.)
-/
import Derived.Test.YtfddmilldiadeaaTmHeads
set_option linter.unusedVariables false
set_option linter.unusedSimpArgs false
namespace Go.GV.Ytfddmilldiadeaa
open Go.Proofs
/-- How often. -/
def isI (a : It) (b : It) : Bool := decide (b.1 = a.1) && decide (b.2.1 = a.2.1)
def cnt (a : It) (l : List It) : Nat := l.countP (isI a)
theorem cnt_snoc (a : It) (l : List It) (b : It) : cnt a (l ++ [b]) = cnt a l + if isI a b then 1 else 0 := by
  unfold cnt
  rw [List.countP_append, List.countP_singleton]
theorem cnt_le (a : It) (l : List It) : cnt a l ≤ l.length := List.countP_le_length
theorem or_l8 (l : List (Int × Int × Int × Unit)) (hl : l.length ≤ 300) (all : List It) (hp : all.Perm (l.map conv)) (i : Nat) (hi : i < l.length) : ∀ (k q : Nat), l.length - q = k → q ≤ l.length →
    voklaw11_TimerOrder.l8 l i (cnt (conv (l.getD i ((0, 0, 0, ()) : Int × Int × Int × Unit))) ((l.take q).map conv) : Nat) (cnt (conv (l.getD i ((0, 0, 0, ()) : Int × Int × Int × Unit))) (all.take q) : Nat) q all = voklaw11_TimerOrder.l7 l (i + 1 : Nat) all := by
  have hlen := hp.length_eq
  rw [List.length_map] at hlen
  intro k
  induction k with
  | zero =>
    intro q hk hq
    have e : q = l.length := by omega
    subst e
    have e1 : cnt (conv (l.getD i ((0, 0, 0, ()) : Int × Int × Int × Unit))) ((l.take l.length).map conv) = cnt (conv (l.getD i ((0, 0, 0, ()) : Int × Int × Int × Unit))) (all.take l.length) := by
      rw [List.take_length, ← hlen, List.take_length]
      exact (hp.countP_eq _).symm
    rw [voklaw11_TimerOrder.l8_eq, e1]
    simp (disch := omega) only [dp, dn, decide_true, decide_false, cond_true, cond_false, Bool.not_true, Bool.not_false, Bool.true_and, Bool.false_and, Bool.and_true, Bool.and_false, Bool.true_or, Bool.false_or, Bool.or_true, Bool.or_false, wr, Option.bind_some, tn_add, tn_add1, tn_sub1, tn_0, tn_1, Int.toNat_natCast]
    rfl
  | succ k ih =>
    intro q hk hq
    have hlt : q < l.length := by omega
    have hc1 := cnt_le (conv (l.getD i ((0, 0, 0, ()) : Int × Int × Int × Unit))) ((l.take q).map conv)
    have hc2 := cnt_le (conv (l.getD i ((0, 0, 0, ()) : Int × Int × Int × Unit))) (all.take q)
    rw [List.length_map, List.length_take] at hc1
    rw [List.length_take] at hc2
    have hih := ih (q + 1) (by omega) (by omega)
    rw [take_getD' ((0, 0, 0, ()) : Int × Int × Int × Unit) hlt, take_getD' ((0, 0, ()) : Int × Int × Unit) (show q < all.length by omega), List.map_append, List.map_singleton, cnt_snoc, cnt_snoc] at hih
    generalize cnt (conv (l.getD i ((0, 0, 0, ()) : Int × Int × Int × Unit))) ((l.take q).map conv) = n at hih hc1 ⊢
    have l10 : ∀ n' : Nat, voklaw11_TimerOrder.l8 l i n' ((cnt (conv (l.getD i ((0, 0, 0, ()) : Int × Int × Int × Unit))) (all.take q) + if isI (conv (l.getD i ((0, 0, 0, ()) : Int × Int × Int × Unit))) (all.getD q ((0, 0, ()) : Int × Int × Unit)) then 1 else 0 : Nat) : Int) (q + 1 : Nat) all = voklaw11_TimerOrder.l7 l (i + 1 : Nat) all → voklaw11_TimerOrder.l10 l i n' (cnt (conv (l.getD i ((0, 0, 0, ()) : Int × Int × Int × Unit))) (all.take q) : Nat) q all = voklaw11_TimerOrder.l7 l (i + 1 : Nat) all := by
      intro n' h
      generalize cnt (conv (l.getD i ((0, 0, 0, ()) : Int × Int × Int × Unit))) (all.take q) = m at h hc2 ⊢
      rw [voklaw11_TimerOrder.l10_eq]
      by_cases c1 : (all.getD q ((0, 0, ()) : Int × Int × Unit)).1 = (l.getD i ((0, 0, 0, ()) : Int × Int × Int × Unit)).2.1
      · by_cases c2 : (all.getD q ((0, 0, ()) : Int × Int × Unit)).2.1 = (l.getD i ((0, 0, 0, ()) : Int × Int × Int × Unit)).2.2.1
        · have hb : isI (conv (l.getD i ((0, 0, 0, ()) : Int × Int × Int × Unit))) (all.getD q ((0, 0, ()) : Int × Int × Unit)) = true := by unfold isI conv; simp (disch := omega) only [dp, dn, decide_true, decide_false, cond_true, cond_false, Bool.not_true, Bool.not_false, Bool.true_and, Bool.false_and, Bool.and_true, Bool.and_false, Bool.true_or, Bool.false_or, Bool.or_true, Bool.or_false, wr, Option.bind_some, tn_add, tn_add1, tn_sub1, tn_0, tn_1, Int.toNat_natCast]
          rw [hb, if_pos rfl] at h
          simp (disch := omega) only [dp, dn, decide_true, decide_false, cond_true, cond_false, Bool.not_true, Bool.not_false, Bool.true_and, Bool.false_and, Bool.and_true, Bool.and_false, Bool.true_or, Bool.false_or, Bool.or_true, Bool.or_false, wr, Option.bind_some, tn_add, tn_add1, tn_sub1, tn_0, tn_1, Int.toNat_natCast, voklaw11_TimerOrder.l11_eq]
          exact h
        · have hb : isI (conv (l.getD i ((0, 0, 0, ()) : Int × Int × Int × Unit))) (all.getD q ((0, 0, ()) : Int × Int × Unit)) = false := by unfold isI conv; simp (disch := omega) only [dp, dn, decide_true, decide_false, cond_true, cond_false, Bool.not_true, Bool.not_false, Bool.true_and, Bool.false_and, Bool.and_true, Bool.and_false, Bool.true_or, Bool.false_or, Bool.or_true, Bool.or_false, wr, Option.bind_some, tn_add, tn_add1, tn_sub1, tn_0, tn_1, Int.toNat_natCast]
          rw [hb] at h
          simp (disch := omega) only [dp, dn, decide_true, decide_false, cond_true, cond_false, Bool.not_true, Bool.not_false, Bool.true_and, Bool.false_and, Bool.and_true, Bool.and_false, Bool.true_or, Bool.false_or, Bool.or_true, Bool.or_false, wr, Option.bind_some, tn_add, tn_add1, tn_sub1, tn_0, tn_1, Int.toNat_natCast, voklaw11_TimerOrder.l11_eq]
          exact h
      · have hb : isI (conv (l.getD i ((0, 0, 0, ()) : Int × Int × Int × Unit))) (all.getD q ((0, 0, ()) : Int × Int × Unit)) = false := by unfold isI conv; simp (disch := omega) only [dp, dn, decide_true, decide_false, cond_true, cond_false, Bool.not_true, Bool.not_false, Bool.true_and, Bool.false_and, Bool.and_true, Bool.and_false, Bool.true_or, Bool.false_or, Bool.or_true, Bool.or_false, wr, Option.bind_some, tn_add, tn_add1, tn_sub1, tn_0, tn_1, Int.toNat_natCast]
        rw [hb] at h
        simp (disch := omega) only [dp, dn, decide_true, decide_false, cond_true, cond_false, Bool.not_true, Bool.not_false, Bool.true_and, Bool.false_and, Bool.and_true, Bool.and_false, Bool.true_or, Bool.false_or, Bool.or_true, Bool.or_false, wr, Option.bind_some, tn_add, tn_add1, tn_sub1, tn_0, tn_1, Int.toNat_natCast, voklaw11_TimerOrder.l11_eq]
        exact h
    rw [voklaw11_TimerOrder.l8_eq]
    by_cases c1 : (l.getD q ((0, 0, 0, ()) : Int × Int × Int × Unit)).2.1 = (l.getD i ((0, 0, 0, ()) : Int × Int × Int × Unit)).2.1
    · by_cases c2 : (l.getD q ((0, 0, 0, ()) : Int × Int × Int × Unit)).2.2.1 = (l.getD i ((0, 0, 0, ()) : Int × Int × Int × Unit)).2.2.1
      · have hb : isI (conv (l.getD i ((0, 0, 0, ()) : Int × Int × Int × Unit))) (conv (l.getD q ((0, 0, 0, ()) : Int × Int × Int × Unit))) = true := by unfold isI conv; simp (disch := omega) only [dp, dn, decide_true, decide_false, cond_true, cond_false, Bool.not_true, Bool.not_false, Bool.true_and, Bool.false_and, Bool.and_true, Bool.and_false, Bool.true_or, Bool.false_or, Bool.or_true, Bool.or_false, wr, Option.bind_some, tn_add, tn_add1, tn_sub1, tn_0, tn_1, Int.toNat_natCast]
        rw [hb, if_pos rfl] at hih
        simp (disch := omega) only [dp, dn, decide_true, decide_false, cond_true, cond_false, Bool.not_true, Bool.not_false, Bool.true_and, Bool.false_and, Bool.and_true, Bool.and_false, Bool.true_or, Bool.false_or, Bool.or_true, Bool.or_false, wr, Option.bind_some, tn_add, tn_add1, tn_sub1, tn_0, tn_1, Int.toNat_natCast, voklaw11_TimerOrder.l9_eq]
        exact l10 (n + 1) hih
      · have hb : isI (conv (l.getD i ((0, 0, 0, ()) : Int × Int × Int × Unit))) (conv (l.getD q ((0, 0, 0, ()) : Int × Int × Int × Unit))) = false := by unfold isI conv; simp (disch := omega) only [dp, dn, decide_true, decide_false, cond_true, cond_false, Bool.not_true, Bool.not_false, Bool.true_and, Bool.false_and, Bool.and_true, Bool.and_false, Bool.true_or, Bool.false_or, Bool.or_true, Bool.or_false, wr, Option.bind_some, tn_add, tn_add1, tn_sub1, tn_0, tn_1, Int.toNat_natCast]
        rw [hb] at hih
        simp (disch := omega) only [dp, dn, decide_true, decide_false, cond_true, cond_false, Bool.not_true, Bool.not_false, Bool.true_and, Bool.false_and, Bool.and_true, Bool.and_false, Bool.true_or, Bool.false_or, Bool.or_true, Bool.or_false, wr, Option.bind_some, tn_add, tn_add1, tn_sub1, tn_0, tn_1, Int.toNat_natCast, voklaw11_TimerOrder.l9_eq]
        exact l10 n hih
    · have hb : isI (conv (l.getD i ((0, 0, 0, ()) : Int × Int × Int × Unit))) (conv (l.getD q ((0, 0, 0, ()) : Int × Int × Int × Unit))) = false := by unfold isI conv; simp (disch := omega) only [dp, dn, decide_true, decide_false, cond_true, cond_false, Bool.not_true, Bool.not_false, Bool.true_and, Bool.false_and, Bool.and_true, Bool.and_false, Bool.true_or, Bool.false_or, Bool.or_true, Bool.or_false, wr, Option.bind_some, tn_add, tn_add1, tn_sub1, tn_0, tn_1, Int.toNat_natCast]
      rw [hb] at hih
      simp (disch := omega) only [dp, dn, decide_true, decide_false, cond_true, cond_false, Bool.not_true, Bool.not_false, Bool.true_and, Bool.false_and, Bool.and_true, Bool.and_false, Bool.true_or, Bool.false_or, Bool.or_true, Bool.or_false, wr, Option.bind_some, tn_add, tn_add1, tn_sub1, tn_0, tn_1, Int.toNat_natCast, voklaw11_TimerOrder.l9_eq]
      exact l10 n hih
theorem or_l7 (l : List (Int × Int × Int × Unit)) (hl : l.length ≤ 300) (all : List It) (hp : all.Perm (l.map conv)) : ∀ (k i : Nat), l.length - i = k → i ≤ l.length → voklaw11_TimerOrder.l7 l i all = some (true, ()) := by
  intro k
  induction k with
  | zero =>
    intro i hk hi
    rw [voklaw11_TimerOrder.l7_eq]
    simp (disch := omega) only [dp, dn, decide_true, decide_false, cond_true, cond_false, Bool.not_true, Bool.not_false, Bool.true_and, Bool.false_and, Bool.and_true, Bool.and_false, Bool.true_or, Bool.false_or, Bool.or_true, Bool.or_false, wr, Option.bind_some, tn_add, tn_add1, tn_sub1, tn_0, tn_1, Int.toNat_natCast, first_true]
  | succ k ih =>
    intro i hk hi
    have := or_l8 l hl all hp i (by omega) _ 0 rfl (Nat.zero_le _)
    rw [Int.natCast_zero] at this
    rw [voklaw11_TimerOrder.l7_eq]
    simp (disch := omega) only [dp, dn, decide_true, decide_false, cond_true, cond_false, Bool.not_true, Bool.not_false, Bool.true_and, Bool.false_and, Bool.and_true, Bool.and_false, Bool.true_or, Bool.false_or, Bool.or_true, Bool.or_false, wr, Option.bind_some, tn_add, tn_add1, tn_sub1, tn_0, tn_1, Int.toNat_natCast]
    exact Eq.trans this (ih (i + 1) (by omega) (by omega))
theorem or_l6 (l : List (Int × Int × Int × Unit)) (hl : l.length ≤ 300) (now : Int) (out L : List It) (hp : (out ++ L).Perm (l.map conv)) (hL : ∀ t ∈ L, now < t.1) : ∀ (k i : Nat), L.length - i = k → i ≤ L.length → voklaw11_TimerOrder.l6 l now L i out = some (true, ()) := by
  have hlim : limit = 17179869184 := rfl
  have hlen := hp.length_eq
  rw [List.length_map, List.length_append] at hlen
  intro k
  induction k with
  | zero =>
    intro i hk hi
    have := or_l7 l hl _ hp _ 0 rfl (Nat.zero_le _)
    rw [Int.natCast_zero] at this
    rw [voklaw11_TimerOrder.l6_eq]
    simp (disch := omega) only [dp, dn, decide_true, decide_false, cond_true, cond_false, Bool.not_true, Bool.not_false, Bool.true_and, Bool.false_and, Bool.and_true, Bool.and_false, Bool.true_or, Bool.false_or, Bool.or_true, Bool.or_false, wr, Option.bind_some, tn_add, tn_add1, tn_sub1, tn_0, tn_1, Int.toNat_natCast, hlim, List.length_append, this]
  | succ k ih =>
    intro i hk hi
    have hlt : i < L.length := by omega
    have := hL _ (getD_mem' ((0, 0, ()) : Int × Int × Unit) hlt)
    rw [voklaw11_TimerOrder.l6_eq]
    simp (disch := omega) only [dp, dn, decide_true, decide_false, cond_true, cond_false, Bool.not_true, Bool.not_false, Bool.true_and, Bool.false_and, Bool.and_true, Bool.and_false, Bool.true_or, Bool.false_or, Bool.or_true, Bool.or_false, wr, Option.bind_some, tn_add, tn_add1, tn_sub1, tn_0, tn_1, Int.toNat_natCast]
    exact ih (i + 1) (by omega) (by omega)
theorem or_l4 (l : List (Int × Int × Int × Unit)) (hl : l.length ≤ 300) (now : Int) (out L : List It) (hp : (out ++ L).Perm (l.map conv)) (hL : ∀ t ∈ L, now < t.1) (ho : srt out) (hno : ∀ t ∈ out, t.1 ≤ now) : ∀ (k i : Nat), out.length - i = k → i ≤ out.length → voklaw11_TimerOrder.l4 l now L i out = some (true, ()) := by
  have hlen := hp.length_eq
  rw [List.length_map, List.length_append] at hlen
  intro k
  induction k with
  | zero =>
    intro i hk hi
    have := or_l6 l hl now out L hp hL _ 0 rfl (Nat.zero_le _)
    rw [Int.natCast_zero] at this
    rw [voklaw11_TimerOrder.l4_eq]
    simp (disch := omega) only [dp, dn, decide_true, decide_false, cond_true, cond_false, Bool.not_true, Bool.not_false, Bool.true_and, Bool.false_and, Bool.and_true, Bool.and_false, Bool.true_or, Bool.false_or, Bool.or_true, Bool.or_false, wr, Option.bind_some, tn_add, tn_add1, tn_sub1, tn_0, tn_1, Int.toNat_natCast, this]
  | succ k ih =>
    intro i hk hi
    have hlt : i < out.length := by omega
    have h1 := hno _ (getD_mem' ((0, 0, ()) : Int × Int × Unit) hlt)
    have next : voklaw11_TimerOrder.l5 l now L i false out = some (true, ()) := by
      rw [voklaw11_TimerOrder.l5_eq]
      simp (disch := omega) only [dp, dn, decide_true, decide_false, cond_true, cond_false, Bool.not_true, Bool.not_false, Bool.true_and, Bool.false_and, Bool.and_true, Bool.and_false, Bool.true_or, Bool.false_or, Bool.or_true, Bool.or_false, wr, Option.bind_some, tn_add, tn_add1, tn_sub1, tn_0, tn_1, Int.toNat_natCast]
      exact ih (i + 1) (by omega) (by omega)
    rw [voklaw11_TimerOrder.l4_eq]
    by_cases h0 : i = 0
    · simp (disch := omega) only [dp, dn, decide_true, decide_false, cond_true, cond_false, Bool.not_true, Bool.not_false, Bool.true_and, Bool.false_and, Bool.and_true, Bool.and_false, Bool.true_or, Bool.false_or, Bool.or_true, Bool.or_false, wr, Option.bind_some, tn_add, tn_add1, tn_sub1, tn_0, tn_1, Int.toNat_natCast, next]
    · have w1 : IntKind.i64.wrap ((i : Int) - 1) = ((i - 1 : Nat) : Int) := wr_sub1 (by omega) (by omega)
      have h2 : le (out.getD (i - 1) ((0, 0, ()) : Int × Int × Unit)) (out.getD i ((0, 0, ()) : Int × Int × Unit)) := by
        rw [getD_eq ((0, 0, ()) : Int × Int × Unit) hlt, getD_eq ((0, 0, ()) : Int × Int × Unit) (show i - 1 < out.length by omega)]
        exact List.pairwise_iff_getElem.1 ho (i - 1) i (by omega) hlt (by omega)
      unfold le lt at h2
      by_cases c1 : (out.getD i ((0, 0, ()) : Int × Int × Unit)).1 = (out.getD (i - 1) ((0, 0, ()) : Int × Int × Unit)).1
      · simp (disch := omega) only [dp, dn, decide_true, decide_false, cond_true, cond_false, Bool.not_true, Bool.not_false, Bool.true_and, Bool.false_and, Bool.and_true, Bool.and_false, Bool.true_or, Bool.false_or, Bool.or_true, Bool.or_false, wr, Option.bind_some, tn_add, tn_add1, tn_sub1, tn_0, tn_1, Int.toNat_natCast, w1, next]
      · simp (disch := omega) only [dp, dn, decide_true, decide_false, cond_true, cond_false, Bool.not_true, Bool.not_false, Bool.true_and, Bool.false_and, Bool.and_true, Bool.and_false, Bool.true_or, Bool.false_or, Bool.or_true, Bool.or_false, wr, Option.bind_some, tn_add, tn_add1, tn_sub1, tn_0, tn_1, Int.toNat_natCast, w1, next]
theorem or_l3 (l : List (Int × Int × Int × Unit)) (hl : l.length ≤ 300) (now : Int) (out y : List It) (hp : (out ++ y).Perm (l.map conv)) (hy : ∀ t ∈ y, now < t.1) (ho : srt out) (hno : ∀ t ∈ out, t.1 ≤ now) : voklaw11_TimerOrder.l3 l now y out = some (true, ()) := by
  have hlen := hp.length_eq
  rw [List.length_map, List.length_append] at hlen
  obtain ⟨L, h1, h2, h3⟩ := List_spec y (by omega)
  have := or_l4 l hl now out L ((h2.append_left out).trans hp) (fun t ht => hy t (h2.mem_iff.1 ht)) ho hno _ 0 rfl (Nat.zero_le _)
  rw [Int.natCast_zero] at this
  rw [voklaw11_TimerOrder.l3_eq]
  simp (disch := omega) only [dp, dn, decide_true, decide_false, cond_true, cond_false, Bool.not_true, Bool.not_false, Bool.true_and, Bool.false_and, Bool.and_true, Bool.and_false, Bool.true_or, Bool.false_or, Bool.or_true, Bool.or_false, wr, Option.bind_some, tn_add, tn_add1, tn_sub1, tn_0, tn_1, Int.toNat_natCast, h1, this]
theorem or_l2 (l : List (Int × Int × Int × Unit)) (hl : l.length ≤ 300) (now : Int) : ∀ (k i : Nat) (y out : List It), y.length = k → out.length = i → (out ++ y).Perm (l.map conv) → Hq y → srt out → (∀ t ∈ out, t.1 ≤ now) → (∀ t ∈ out, ∀ u ∈ y, le t u) → voklaw11_TimerOrder.l2 l now i y out = some (true, ()) := by
  have hlim : limit = 17179869184 := rfl
  intro k
  induction k with
  | zero =>
    intro i y out hk hi hp hy ho hno hle
    have hlen := hp.length_eq
    rw [List.length_map, List.length_append] at hlen
    have e := nil_of_len hk
    have h3 := or_l3 l hl now out y hp (fun t ht => by rw [e] at ht; cases ht) ho hno
    rw [voklaw11_TimerOrder.l2_eq]
    rcases QPop_spec y (by omega) hy now with ⟨_, h2⟩ | ⟨⟨h1, _⟩, _⟩
    · simp (disch := omega) only [dp, dn, decide_true, decide_false, cond_true, cond_false, Bool.not_true, Bool.not_false, Bool.true_and, Bool.false_and, Bool.and_true, Bool.and_false, Bool.true_or, Bool.false_or, Bool.or_true, Bool.or_false, wr, Option.bind_some, tn_add, tn_add1, tn_sub1, tn_0, tn_1, Int.toNat_natCast, h2, h3]
    · omega
  | succ k ih =>
    intro i y out hk hi hp hy ho hno hle
    have hlen := hp.length_eq
    rw [List.length_map, List.length_append] at hlen
    rw [voklaw11_TimerOrder.l2_eq]
    rcases QPop_spec y (by omega) hy now with ⟨h1, h2⟩ | ⟨⟨h0, h1⟩, r, h2, h3, h4⟩
    · have h1 : (y.getD 0 ((0, 0, ()) : Int × Int × Unit)).1 > now := h1.resolve_left (by omega)
      have h3 := or_l3 l hl now out y hp (fun t ht => by
        have := hy.least ht
        unfold le lt at this
        omega) ho hno
      simp (disch := omega) only [dp, dn, decide_true, decide_false, cond_true, cond_false, Bool.not_true, Bool.not_false, Bool.true_and, Bool.false_and, Bool.and_true, Bool.and_false, Bool.true_or, Bool.false_or, Bool.or_true, Bool.or_false, wr, Option.bind_some, tn_add, tn_add1, tn_sub1, tn_0, tn_1, Int.toNat_natCast, h2, h3]
    · have hrl := h3.length_eq
      simp only [List.length_cons] at hrl
      have hm : y.getD 0 ((0, 0, ()) : Int × Int × Unit) ∈ y := getD_mem' ((0, 0, ()) : Int × Int × Unit) h0
      simp (disch := omega) only [dp, dn, decide_true, decide_false, cond_true, cond_false, Bool.not_true, Bool.not_false, Bool.true_and, Bool.false_and, Bool.and_true, Bool.and_false, Bool.true_or, Bool.false_or, Bool.or_true, Bool.or_false, wr, Option.bind_some, tn_add, tn_add1, tn_sub1, tn_0, tn_1, Int.toNat_natCast, h2, List.length_singleton, hlim]
      refine ih (i + 1) r (out ++ [y.getD 0 ((0, 0, ()) : Int × Int × Unit)]) (by omega) (by simp; omega) ?_ h4 ?_ ?_ ?_
      · rw [List.append_assoc]
        exact (List.Perm.append_left out h3.symm).trans hp
      · refine List.pairwise_append.2 ⟨ho, List.pairwise_singleton _ _, fun a ha b hb => ?_⟩
        rw [List.mem_singleton] at hb
        rw [hb]; exact hle a ha _ hm
      · intro t ht
        rcases List.mem_append.1 ht with h | h
        · exact hno t h
        · rw [List.mem_singleton] at h; rw [h]; exact h1
      · intro t ht u hu
        have hu2 := h3.mem_iff.2 (List.mem_cons_of_mem _ hu)
        rcases List.mem_append.1 ht with h | h
        · exact hle t h u hu2
        · rw [List.mem_singleton] at h; rw [h]; exact hy.least hu2
theorem or_l1 (l : List (Int × Int × Int × Unit)) (hl : l.length ≤ 300) (now : Int) : ∀ (k i : Nat) (y : List It), l.length - i = k → i ≤ l.length → Hq y → y.Perm ((l.take i).map conv) → voklaw11_TimerOrder.l1 l now i y = some (true, ()) := by
  intro k
  induction k with
  | zero =>
    intro i y hk hi hy hp
    have e : i = l.length := by omega
    subst e
    rw [List.take_length] at hp
    have := or_l2 l hl now _ 0 y [] rfl rfl hp hy List.Pairwise.nil (fun t ht => by cases ht) fun t ht => by cases ht
    rw [Int.natCast_zero] at this
    rw [voklaw11_TimerOrder.l1_eq]
    simp (disch := omega) only [dp, dn, decide_true, decide_false, cond_true, cond_false, Bool.not_true, Bool.not_false, Bool.true_and, Bool.false_and, Bool.and_true, Bool.and_false, Bool.true_or, Bool.false_or, Bool.or_true, Bool.or_false, wr, Option.bind_some, tn_add, tn_add1, tn_sub1, tn_0, tn_1, Int.toNat_natCast, this]
  | succ k ih =>
    intro i y hk hi hy hp
    have hlt : i < l.length := by omega
    have hlen := hp.length_eq
    rw [List.length_map, List.length_take] at hlen
    obtain ⟨r, h1, h2, h3⟩ := Push_spec y (by omega) hy (l.getD i ((0, 0, 0, ()) : Int × Int × Int × Unit)).2.1 (l.getD i ((0, 0, 0, ()) : Int × Int × Int × Unit)).2.2.1
    have hp2 : r.Perm ((l.take (i + 1)).map conv) := by
      rw [take_getD' ((0, 0, 0, ()) : Int × Int × Int × Unit) hlt, List.map_append, List.map_singleton]
      exact h2.trans ((hp.cons _).trans (List.perm_append_singleton _ _).symm)
    rw [voklaw11_TimerOrder.l1_eq]
    simp (disch := omega) only [dp, dn, decide_true, decide_false, cond_true, cond_false, Bool.not_true, Bool.not_false, Bool.true_and, Bool.false_and, Bool.and_true, Bool.and_false, Bool.true_or, Bool.false_or, Bool.or_true, Bool.or_false, wr, Option.bind_some, tn_add, tn_add1, tn_sub1, tn_0, tn_1, Int.toNat_natCast, h1]
    exact ih (i + 1) r (by omega) (by omega) h3 hp2
theorem TimerOrder_pure (l : List (Int × Int × Int × Unit)) (now : Int) : voklaw11_TimerOrder.f l now = some (true, ()) := by
  rw [voklaw11_TimerOrder.f_eq]
  by_cases hl : (l.length : Int) > 300
  · simp (disch := omega) only [dp, dn, decide_true, decide_false, cond_true, cond_false, Bool.not_true, Bool.not_false, Bool.true_and, Bool.false_and, Bool.and_true, Bool.and_false, Bool.true_or, Bool.false_or, Bool.or_true, Bool.or_false, wr, Option.bind_some, tn_add, tn_add1, tn_sub1, tn_0, tn_1, Int.toNat_natCast, first_true, New_eq]
  · have := or_l1 l (by omega) now _ 0 [] rfl (Nat.zero_le _) Hq.nil (by simp)
    rw [Int.natCast_zero] at this
    simp (disch := omega) only [dp, dn, decide_true, decide_false, cond_true, cond_false, Bool.not_true, Bool.not_false, Bool.true_and, Bool.false_and, Bool.and_true, Bool.and_false, Bool.true_or, Bool.false_or, Bool.or_true, Bool.or_false, wr, Option.bind_some, tn_add, tn_add1, tn_sub1, tn_0, tn_1, Int.toNat_natCast, first_true, New_eq, this]
end Go.GV.Ytfddmilldiadeaa
