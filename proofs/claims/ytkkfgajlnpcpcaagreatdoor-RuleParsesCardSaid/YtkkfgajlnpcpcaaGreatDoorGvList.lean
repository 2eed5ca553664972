/-
GV: plain laws on lists that loops lean on. No program here. (This session's own text.)
-/
import Derived.Test.YtkkfgajlnpcpcaaGreatDoorGvPlain
set_option linter.unusedVariables false
set_option linter.unusedSimpArgs false
namespace Go.GV
theorem getD_snoc {α : Type} (o : List α) (p z : α) : (o ++ [p]).getD o.length z = p := by simp [List.getD_eq_getElem?_getD]
theorem set_snoc {α : Type} (o : List α) (p v : α) : (o ++ [p]).set o.length v = o ++ [v] := by simp
theorem len_snoc {α : Type} (o : List α) (p : α) : (o ++ [p]).length = o.length + 1 := by simp
theorem wr_pred {n : Nat} (h : n < 4611686018427387904) : IntKind.i64.wrap (((n + 1 : Nat) : Int) - 1) = (n : Int) := by rw [wr (by omega) (by omega)]; omega
theorem wr_sub1 {n : Nat} (h0 : 0 < n) (h : n < 4611686018427387904) : IntKind.i64.wrap ((n : Int) - 1) = ((n - 1 : Nat) : Int) := by rw [wr (by omega) (by omega)]; omega
theorem wr_succ {n : Nat} (h : n < 4611686018427387904) : IntKind.i64.wrap ((n : Int) + 1) = ((n + 1 : Nat) : Int) := wr_nat (by omega)
theorem snoc_cases {α : Type} (l : List α) : l = [] ∨ ∃ o p, l = o ++ [p] := by
  rcases List.eq_nil_or_concat l with h | ⟨o, p, h⟩
  · exact .inl h
  · exact .inr ⟨o, p, by simpa using h⟩
theorem getD_eq {α : Type} {l : List α} {i : Nat} (z : α) (h : i < l.length) : l.getD i z = l[i] := by simp [List.getD_eq_getElem?_getD, h]
theorem getD_mem' {α : Type} {l : List α} {i : Nat} (z : α) (h : i < l.length) : l.getD i z ∈ l := by rw [getD_eq z h]; exact List.getElem_mem h
theorem drop_getD' {α : Type} {l : List α} {i : Nat} (z : α) (h : i < l.length) : l.drop i = l.getD i z :: l.drop (i + 1) := drop_cons l i z h
theorem take_getD' {α : Type} {l : List α} {i : Nat} (z : α) (h : i < l.length) : l.take (i + 1) = l.take i ++ [l.getD i z] := by rw [List.take_add_one, List.getElem?_eq_getElem h, getD_eq z h]; rfl
/-- An element put where it belongs. -/
theorem ins_sorted {α : Type} {R : α → α → Prop} {l : List α} {x : α} {k : Nat} (hs : l.Pairwise R) (h1 : ∀ a ∈ l.take k, R a x) (h2 : ∀ a ∈ l.drop k, R x a) : (l.take k ++ ([x] ++ l.drop k)).Pairwise R := by
  rw [List.singleton_append]
  refine List.pairwise_append.2 ⟨hs.sublist (List.take_sublist k l), List.pairwise_cons.2 ⟨h2, hs.sublist (List.drop_sublist k l)⟩, ?_⟩
  intro a ha b hb
  rcases List.mem_cons.1 hb with rfl | hb
  · exact h1 a ha
  · have := hs
    rw [← List.take_append_drop k l] at this
    exact (List.pairwise_append.1 this).2.2 a ha b hb
theorem ins_perm {α : Type} (l : List α) (x : α) (k : Nat) : (l.take k ++ ([x] ++ l.drop k)).Perm (x :: l) := by
  have h : (l.take k ++ ([x] ++ l.drop k)).Perm (x :: (l.take k ++ l.drop k)) := by
    rw [List.singleton_append]; exact List.perm_middle
  rwa [List.take_append_drop] at h
/-- Where it belongs: all that is greater, from the end. -/
theorem ins_place {α : Type} (key : α → Int) {l : List α} (hs : l.Pairwise fun a b => key a ≤ key b) (v : Int) (z : α) {k : Nat} (hk : k ≤ l.length) (h1 : ∀ j, k ≤ j → j < l.length → v < key (l.getD j z)) (h2 : k = 0 ∨ key (l.getD (k - 1) z) ≤ v) :
    (∀ a ∈ l.take k, key a ≤ v) ∧ (∀ a ∈ l.drop k, v < key a) := by
  constructor
  · intro a ha
    obtain ⟨j, hj, e⟩ := List.getElem_of_mem ha
    have hjk : j < k := by have := hj; rw [List.length_take] at this; omega
    rcases h2 with h2 | h2
    · omega
    · have e2 : a = l[j] := by rw [← e, List.getElem_take]
      rw [e2]
      rw [getD_eq z (by omega)] at h2
      by_cases hjk' : j = k - 1
      · subst hjk'; exact h2
      · exact Int.le_trans (List.pairwise_iff_getElem.1 hs j (k - 1) (by omega) (by omega) (by omega)) h2
  · intro a ha
    obtain ⟨j, hj, e⟩ := List.getElem_of_mem ha
    rw [List.length_drop] at hj
    have := h1 (k + j) (by omega) (by omega)
    rw [getD_eq z (by omega)] at this
    rw [← e, List.getElem_drop]
    exact this
/-- Two sorted lists of the same elements, no two with one key, are one. -/
theorem sorted_uniq {α : Type} (key : α → Int) : ∀ {a b : List α}, a.Perm b → a.Pairwise (fun x y => key x < key y) → b.Pairwise (fun x y => key x < key y) → a = b
  | [], b, hp, _, _ => (List.nil_perm.1 hp).symm
  | x :: a, [], hp, _, _ => by simp at hp
  | x :: a, y :: b, hp, ha, hb => by
    rw [List.pairwise_cons] at ha hb
    have hx : x ∈ y :: b := hp.mem_iff.1 List.mem_cons_self
    have hy : y ∈ x :: a := hp.mem_iff.2 List.mem_cons_self
    have e : x = y := by
      rcases List.mem_cons.1 hx with h | h
      · exact h
      · rcases List.mem_cons.1 hy with h' | h'
        · exact h'.symm
        · have := hb.1 x h; have := ha.1 y h'; omega
    subst e
    rw [sorted_uniq key ((List.perm_cons x).1 hp) ha.2 hb.2]
theorem lt_of_le_nodup {α : Type} (key : α → Int) {l : List α} (h : l.Pairwise fun x y => key x ≤ key y) (hn : (l.map key).Nodup) : l.Pairwise fun x y => key x < key y := by
  rw [List.nodup_iff_pairwise_ne, List.pairwise_map] at hn
  exact (h.and hn).imp fun ⟨h1, h2⟩ => by omega
theorem mm_max (a b : Int) : mm true a b = max a b := by
  unfold mm
  simp only [cond_true]
  split <;> omega
theorem mm_min (a b : Int) : mm false a b = min a b := by
  unfold mm
  simp only [cond_false]
  split <;> omega
end Go.GV
