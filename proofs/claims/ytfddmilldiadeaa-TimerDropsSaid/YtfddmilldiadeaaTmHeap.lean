/-
A heap, by its list: what sinking, rising and taking come to. No program here. (This session's own text.)
-/
import Derived.Test.YtfddmilldiadeaaGvList
set_option linter.unusedVariables false
set_option linter.unusedSimpArgs false
namespace Go.GV.Ytfddmilldiadeaa
abbrev It := Int × Int × Unit
def lt (a b : It) : Prop := a.1 < b.1 ∨ a.1 = b.1 ∧ a.2.1 < b.2.1
instance (a b : It) : Decidable (lt a b) := by unfold lt; infer_instance
def le (a b : It) : Prop := ¬ lt b a
theorem le_refl (a : It) : le a a := by unfold le lt; omega
theorem le_trans {a b c : It} (h : le a b) (g : le b c) : le a c := by unfold le lt at *; omega
theorem le_anti {a b : It} (h : le a b) (g : le b a) : a = b := by
  obtain ⟨a1, a2, ⟨⟩⟩ := a
  obtain ⟨b1, b2, ⟨⟩⟩ := b
  unfold le lt at *
  simp only at *
  have e1 : a1 = b1 := by omega
  have e2 : a2 = b2 := by omega
  rw [e1, e2]
theorem le_of_lt {a b : It} (h : lt a b) : le a b := by unfold le lt at *; omega
def swp (l : List It) (i j : Nat) : List It := (l.set i (l.getD j ((0, 0, ()) : Int × Int × Unit))).set j (l.getD i ((0, 0, ()) : Int × Int × Unit))
theorem swp_len (l : List It) (i j : Nat) : (swp l i j).length = l.length := by simp [swp]
theorem swp_get (l : List It) {i j : Nat} (hi : i < l.length) (hj : j < l.length) (k : Nat) : (swp l i j).getD k ((0, 0, ()) : Int × Int × Unit) = if k = j then l.getD i ((0, 0, ()) : Int × Int × Unit) else if k = i then l.getD j ((0, 0, ()) : Int × Int × Unit) else l.getD k ((0, 0, ()) : Int × Int × Unit) := by
  unfold swp
  rw [List.getD_eq_getElem?_getD, List.getElem?_set, List.getElem?_set]
  by_cases h1 : k = j
  · subst h1; simp [hj]
  · by_cases h2 : k = i
    · subst h2; simp [hi, h1, Ne.symm h1]
    · simp [h1, h2, Ne.symm h1, Ne.symm h2, List.getD_eq_getElem?_getD]
theorem swp_perm (l : List It) {i j : Nat} (hi : i < l.length) (hj : j < l.length) : (swp l i j).Perm l := by
  unfold swp
  rw [getD_eq ((0, 0, ()) : Int × Int × Unit) hi, getD_eq ((0, 0, ()) : Int × Int × Unit) hj]
  exact List.set_set_perm hi hj
theorem swp_drop (l : List It) {i j n : Nat} (hi : i < n) (hj : j < n) : (swp l i j).drop n = l.drop n := by
  unfold swp
  rw [List.drop_set_of_lt (by omega), List.drop_set_of_lt (by omega)]
/-- In order from a parent on. -/
def hp (l : List It) (n k : Nat) : Prop := ∀ j, 0 < j → j < n → k ≤ (j - 1) / 2 → le (l.getD ((j - 1) / 2) ((0, 0, ()) : Int × Int × Unit)) (l.getD j ((0, 0, ()) : Int × Int × Unit))
def sink : Nat → Nat → Nat → List It → List It
  | 0, _, _, l => l
  | f + 1, n, i, l =>
    if 2 * i + 1 < n then
      if 2 * i + 2 < n ∧ lt (l.getD (2 * i + 2) ((0, 0, ()) : Int × Int × Unit)) (l.getD (2 * i + 1) ((0, 0, ()) : Int × Int × Unit)) then
        if lt (l.getD (2 * i + 2) ((0, 0, ()) : Int × Int × Unit)) (l.getD i ((0, 0, ()) : Int × Int × Unit)) then sink f n (2 * i + 2) (swp l i (2 * i + 2)) else l
      else if lt (l.getD (2 * i + 1) ((0, 0, ()) : Int × Int × Unit)) (l.getD i ((0, 0, ()) : Int × Int × Unit)) then sink f n (2 * i + 1) (swp l i (2 * i + 1)) else l
    else l
structure Fine (l l' : List It) (n : Nat) : Prop where
  perm : l'.Perm l
  drop : l'.drop n = l.drop n
theorem Fine.rfl' {l : List It} {n : Nat} : Fine l l n := ⟨List.Perm.refl _, rfl⟩
theorem Fine.trans {a b c : List It} {n : Nat} (h : Fine a b n) (g : Fine b c n) : Fine a c n := ⟨g.perm.trans h.perm, g.drop.trans h.drop⟩
theorem Fine.swp {l : List It} {i j n : Nat} (hi : i < n) (hj : j < n) (hn : n ≤ l.length) : Fine l (swp l i j) n := ⟨swp_perm l (by omega) (by omega), swp_drop l hi hj⟩
theorem Fine.len {a b : List It} {n : Nat} (h : Fine a b n) : b.length = a.length := h.perm.length_eq
theorem sink_step {l : List It} {n k i j : Nat} (hn : n ≤ l.length) (hk : k ≤ i) (hj : j < n) (hc : (j - 1) / 2 = i) (h0 : 0 < j)
    (h1 : ∀ m, 0 < m → m < n → k ≤ (m - 1) / 2 → (m - 1) / 2 ≠ i → le (l.getD ((m - 1) / 2) ((0, 0, ()) : Int × Int × Unit)) (l.getD m ((0, 0, ()) : Int × Int × Unit)))
    (h2 : ∀ m, 0 < m → m < n → (m - 1) / 2 = i → 0 < i → k ≤ (i - 1) / 2 → le (l.getD ((i - 1) / 2) ((0, 0, ()) : Int × Int × Unit)) (l.getD m ((0, 0, ()) : Int × Int × Unit)))
    (h3 : ∀ m, 0 < m → m < n → (m - 1) / 2 = i → le (l.getD j ((0, 0, ()) : Int × Int × Unit)) (l.getD m ((0, 0, ()) : Int × Int × Unit))) (h4 : lt (l.getD j ((0, 0, ()) : Int × Int × Unit)) (l.getD i ((0, 0, ()) : Int × Int × Unit))) :
    (∀ m, 0 < m → m < n → k ≤ (m - 1) / 2 → (m - 1) / 2 ≠ j → le ((swp l i j).getD ((m - 1) / 2) ((0, 0, ()) : Int × Int × Unit)) ((swp l i j).getD m ((0, 0, ()) : Int × Int × Unit))) ∧
    (∀ m, 0 < m → m < n → (m - 1) / 2 = j → 0 < j → k ≤ (j - 1) / 2 → le ((swp l i j).getD ((j - 1) / 2) ((0, 0, ()) : Int × Int × Unit)) ((swp l i j).getD m ((0, 0, ()) : Int × Int × Unit))) := by
  have hij : i < j := by omega
  constructor
  · intro m m0 mn mk mj
    rw [swp_get l (by omega) (by omega), swp_get l (by omega) (by omega)]
    by_cases hp : (m - 1) / 2 = i
    · rw [hp, if_neg (by omega), if_pos rfl]
      by_cases hm : m = j
      · rw [if_pos hm]; exact le_of_lt h4
      · rw [if_neg hm, if_neg (by omega)]; exact h3 m m0 mn hp
    · rw [if_neg mj, if_neg hp, if_neg (by intro e; subst e; omega)]
      by_cases hm : m = i
      · rw [if_pos hm]
        subst hm
        exact h2 j h0 hj hc m0 mk
      · rw [if_neg hm]
        exact h1 m m0 mn mk hp
  · intro m m0 mn mj _ mk
    rw [swp_get l (by omega) (by omega), swp_get l (by omega) (by omega), hc, if_neg (by omega), if_pos rfl, if_neg (by omega), if_neg (by omega)]
    have := h1 m m0 mn (by omega) (by omega)
    rwa [mj] at this
theorem sink_spec : ∀ (f n k i : Nat) (l : List It), n ≤ l.length → n ≤ i + f → k ≤ i →
    (∀ m, 0 < m → m < n → k ≤ (m - 1) / 2 → (m - 1) / 2 ≠ i → le (l.getD ((m - 1) / 2) ((0, 0, ()) : Int × Int × Unit)) (l.getD m ((0, 0, ()) : Int × Int × Unit))) →
    (∀ m, 0 < m → m < n → (m - 1) / 2 = i → 0 < i → k ≤ (i - 1) / 2 → le (l.getD ((i - 1) / 2) ((0, 0, ()) : Int × Int × Unit)) (l.getD m ((0, 0, ()) : Int × Int × Unit))) →
    Fine l (sink f n i l) n ∧ hp (sink f n i l) n k
  | 0, n, k, i, l, hn, hf, hk, h1, h2 => by
    refine ⟨Fine.rfl', fun j j0 jn jk => ?_⟩
    exact h1 j j0 jn jk (by omega)
  | f + 1, n, k, i, l, hn, hf, hk, h1, h2 => by
    unfold sink
    by_cases c1 : 2 * i + 1 < n
    · rw [if_pos c1]
      by_cases c2 : 2 * i + 2 < n ∧ lt (l.getD (2 * i + 2) ((0, 0, ()) : Int × Int × Unit)) (l.getD (2 * i + 1) ((0, 0, ()) : Int × Int × Unit))
      · rw [if_pos c2]
        have h3 : ∀ m, 0 < m → m < n → (m - 1) / 2 = i → le (l.getD (2 * i + 2) ((0, 0, ()) : Int × Int × Unit)) (l.getD m ((0, 0, ()) : Int × Int × Unit)) := fun m m0 mn mi => by
          rcases (by omega : m = 2 * i + 1 ∨ m = 2 * i + 2) with e | e
          · subst e; exact le_of_lt c2.2
          · subst e; exact le_refl _
        by_cases c3 : lt (l.getD (2 * i + 2) ((0, 0, ()) : Int × Int × Unit)) (l.getD i ((0, 0, ()) : Int × Int × Unit))
        · rw [if_pos c3]
          obtain ⟨g1, g2⟩ := sink_step hn hk c2.1 (by omega) (by omega) h1 h2 h3 c3
          obtain ⟨r1, r2⟩ := sink_spec f n k (2 * i + 2) (swp l i (2 * i + 2)) (by rw [swp_len]; exact hn) (by omega) (by omega) g1 g2
          exact ⟨(Fine.swp (by omega) (by omega) hn).trans r1, r2⟩
        · rw [if_neg c3]
          refine ⟨Fine.rfl', fun j j0 jn jk => ?_⟩
          by_cases e : (j - 1) / 2 = i
          · rw [e]; exact le_trans c3 (h3 j j0 jn e)
          · exact h1 j j0 jn jk e
      · rw [if_neg c2]
        have h3 : ∀ m, 0 < m → m < n → (m - 1) / 2 = i → le (l.getD (2 * i + 1) ((0, 0, ()) : Int × Int × Unit)) (l.getD m ((0, 0, ()) : Int × Int × Unit)) := fun m m0 mn mi => by
          rcases (by omega : m = 2 * i + 1 ∨ m = 2 * i + 2) with e | e
          · subst e; exact le_refl _
          · subst e; exact fun h => c2 ⟨mn, h⟩
        by_cases c3 : lt (l.getD (2 * i + 1) ((0, 0, ()) : Int × Int × Unit)) (l.getD i ((0, 0, ()) : Int × Int × Unit))
        · rw [if_pos c3]
          obtain ⟨g1, g2⟩ := sink_step hn hk c1 (by omega) (by omega) h1 h2 h3 c3
          obtain ⟨r1, r2⟩ := sink_spec f n k (2 * i + 1) (swp l i (2 * i + 1)) (by rw [swp_len]; exact hn) (by omega) (by omega) g1 g2
          exact ⟨(Fine.swp (by omega) (by omega) hn).trans r1, r2⟩
        · rw [if_neg c3]
          refine ⟨Fine.rfl', fun j j0 jn jk => ?_⟩
          by_cases e : (j - 1) / 2 = i
          · rw [e]; exact le_trans c3 (h3 j j0 jn e)
          · exact h1 j j0 jn jk e
    · rw [if_neg c1]
      refine ⟨Fine.rfl', fun j j0 jn jk => h1 j j0 jn jk (by omega)⟩
def rise : Nat → Nat → List It → List It
  | 0, _, l => l
  | f + 1, j, l => if j = 0 then l else if lt (l.getD j ((0, 0, ()) : Int × Int × Unit)) (l.getD ((j - 1) / 2) ((0, 0, ()) : Int × Int × Unit)) then rise f ((j - 1) / 2) (swp l ((j - 1) / 2) j) else l
theorem rise_spec : ∀ (f n j : Nat) (l : List It), n ≤ l.length → j < n → j ≤ f →
    (∀ m, 0 < m → m < n → m ≠ j → le (l.getD ((m - 1) / 2) ((0, 0, ()) : Int × Int × Unit)) (l.getD m ((0, 0, ()) : Int × Int × Unit))) →
    (∀ m, 0 < m → m < n → (m - 1) / 2 = j → 0 < j → le (l.getD ((j - 1) / 2) ((0, 0, ()) : Int × Int × Unit)) (l.getD m ((0, 0, ()) : Int × Int × Unit))) →
    (rise f j l).Perm l ∧ hp (rise f j l) n 0
  | 0, n, j, l, hn, hj, hf, h1, h2 => by
    refine ⟨List.Perm.refl _, fun m m0 mn _ => h1 m m0 mn (by omega)⟩
  | f + 1, n, j, l, hn, hj, hf, h1, h2 => by
    unfold rise
    by_cases c0 : j = 0
    · rw [if_pos c0]
      exact ⟨List.Perm.refl _, fun m m0 mn _ => h1 m m0 mn (by omega)⟩
    · rw [if_neg c0]
      by_cases c1 : lt (l.getD j ((0, 0, ()) : Int × Int × Unit)) (l.getD ((j - 1) / 2) ((0, 0, ()) : Int × Int × Unit))
      · rw [if_pos c1]
        have hlt : (j - 1) / 2 < j := by omega
        obtain ⟨r1, r2⟩ := rise_spec f n ((j - 1) / 2) (swp l ((j - 1) / 2) j) (by rw [swp_len]; exact hn) (by omega) (by omega) (fun m m0 mn mj => by
          rw [swp_get l (by omega) (by omega), swp_get l (by omega) (by omega), if_neg (c := m = (j - 1) / 2) mj]
          by_cases e : m = j
          · rw [if_pos e, e, if_neg (by omega), if_pos rfl]; exact le_of_lt c1
          · rw [if_neg e]
            by_cases e2 : (m - 1) / 2 = j
            · rw [if_pos e2]; exact h2 m m0 mn e2 (by omega)
            · rw [if_neg e2]
              by_cases e3 : (m - 1) / 2 = (j - 1) / 2
              · rw [if_pos e3]
                have := h1 m m0 mn e
                rw [e3] at this
                exact le_trans (le_of_lt c1) this
              · rw [if_neg e3]; exact h1 m m0 mn e) (fun m m0 mn mj i0 => by
          rw [swp_get l (by omega) (by omega), swp_get l (by omega) (by omega), if_neg (c := ((j - 1) / 2 - 1) / 2 = j) (by omega), if_neg (c := ((j - 1) / 2 - 1) / 2 = (j - 1) / 2) (by omega)]
          have hg := h1 ((j - 1) / 2) i0 (by omega) (by omega)
          by_cases e : m = j
          · rw [if_pos e]; exact hg
          · rw [if_neg e, if_neg (by omega)]
            have := h1 m m0 mn e
            rw [mj] at this
            exact le_trans hg this)
        exact ⟨r1.trans (swp_perm l (by omega) (by omega)), r2⟩
      · rw [if_neg c1]
        refine ⟨List.Perm.refl _, fun m m0 mn _ => ?_⟩
        by_cases e : m = j
        · subst e; exact c1
        · exact h1 m m0 mn e
/-- A heap's first one is the least. -/
theorem hp_least {l : List It} {n : Nat} (h : hp l n 0) : ∀ j, j < n → le (l.getD 0 ((0, 0, ()) : Int × Int × Unit)) (l.getD j ((0, 0, ()) : Int × Int × Unit)) := by
  intro j
  induction j using Nat.strongRecOn with
  | ind j ih =>
    intro hj
    by_cases h0 : j = 0
    · subst h0; exact le_refl _
    · exact le_trans (ih ((j - 1) / 2) (by omega) (by omega)) (h j (by omega) hj (Nat.zero_le _))
/-- A whole heap. -/
def Hq (l : List It) : Prop := hp l l.length 0
theorem Hq.nil : Hq [] := fun j j0 jn _ => by simp at jn
theorem Hq.least {l : List It} (h : Hq l) {a : It} (ha : a ∈ l) : le (l.getD 0 ((0, 0, ()) : Int × Int × Unit)) a := by
  obtain ⟨j, hj, e⟩ := List.getElem_of_mem ha
  have := hp_least h j hj
  rwa [getD_eq ((0, 0, ()) : Int × Int × Unit) hj, e] at this
/-! ### Sorted -/
abbrev srt (l : List It) : Prop := l.Pairwise le
theorem srt_uniq : ∀ {a b : List It}, a.Perm b → srt a → srt b → a = b
  | [], b, hp, _, _ => (List.nil_perm.1 hp).symm
  | x :: a, [], hp, _, _ => by simp at hp
  | x :: a, y :: b, hp, ha, hb => by
    have ha := List.pairwise_cons.1 ha
    have hb := List.pairwise_cons.1 hb
    have hx : x ∈ y :: b := hp.mem_iff.1 List.mem_cons_self
    have hy : y ∈ x :: a := hp.mem_iff.2 List.mem_cons_self
    have e : x = y := by
      rcases List.mem_cons.1 hx with h | h
      · exact h
      · rcases List.mem_cons.1 hy with h' | h'
        · exact h'.symm
        · exact le_anti (ha.1 y h') (hb.1 x h)
    subst e
    rw [srt_uniq ((List.perm_cons x).1 hp) ha.2 hb.2]
/-- The heap's first one heads the sorted list. -/
theorem head_eq {y L : List It} (hy : Hq y) (hL : srt L) (hp : y.Perm L) (h0 : 0 < y.length) : y.getD 0 ((0, 0, ()) : Int × Int × Unit) = L.getD 0 ((0, 0, ()) : Int × Int × Unit) := by
  have hL0 : 0 < L.length := by rw [← hp.length_eq]; exact h0
  refine le_anti (hy.least (hp.mem_iff.2 (getD_mem' ((0, 0, ()) : Int × Int × Unit) hL0))) ?_
  cases L with
  | nil => simp at hL0
  | cons x L =>
    have := hp.mem_iff.1 (getD_mem' ((0, 0, ()) : Int × Int × Unit) h0)
    rcases List.mem_cons.1 this with e | e
    · rw [e]; exact le_refl _
    · exact (List.pairwise_cons.1 hL).1 _ e
end Go.GV.Ytfddmilldiadeaa
