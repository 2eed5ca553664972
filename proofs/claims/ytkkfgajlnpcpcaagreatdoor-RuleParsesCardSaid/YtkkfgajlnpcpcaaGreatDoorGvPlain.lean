/-
GV: plain words and laws for what cards come to: bytes, numbers, lists. No program here. (This session's own text.)
-/
import Derived.Test.YtkkfgajlnpcpcaaGreatDoorGvSeat
set_option linter.unusedVariables false
set_option linter.unusedSimpArgs false
namespace Go.GV

/-! ### Numbers -/
theorem wr {x : Int} (h1 : -9223372036854775808 ≤ x) (h2 : x ≤ 9223372036854775807) : IntKind.i64.wrap x = x := Go.IntWalk.i64_in x ⟨h1, h2⟩
theorem wr_nat {n : Nat} (h : n < 9223372036854775807) : IntKind.i64.wrap ((n : Int) + 1) = ((n + 1 : Nat) : Int) := by rw [wr (by omega) (by omega)]; omega
theorem u8_int (c d : UInt8) : ((c.toNat : Int) = (d.toNat : Int)) ↔ c = d := by
  constructor
  · intro h
    exact UInt8.toNat_inj.1 (by omega)
  · rintro rfl; rfl
theorem u8_eq (c : UInt8) (n : Nat) (h : n < 256) : ((c.toNat : Int) = (n : Int)) ↔ c = UInt8.ofNat n := by
  have := u8_int c (UInt8.ofNat n)
  rw [UInt8.toNat_ofNat', Nat.mod_eq_of_lt (by simpa using h)] at this
  exact this
theorem u8_bd (c : UInt8) : (0 : Int) ≤ (c.toNat : Int) ∧ (c.toNat : Int) < 256 := ⟨by omega, by have := c.toNat_lt; omega⟩

section
variable {α : Type} {p : Prop} [Decidable p] {a b : α}
theorem cd_pos (h : p) : (bif decide p then a else b) = a := by simp [h]
theorem cd_neg (h : ¬ p) : (bif decide p then a else b) = b := by simp [h]
theorem cn_pos (h : p) : (bif !decide p then a else b) = b := by simp [h]
theorem cn_neg (h : ¬ p) : (bif !decide p then a else b) = a := by simp [h]
end
theorem dp {p : Prop} [Decidable p] (h : p) : decide p = true := decide_eq_true h
theorem dn {p : Prop} [Decidable p] (h : ¬ p) : decide p = false := decide_eq_false h
theorem tn_add (n m : Nat) : ((n : Int) + (m : Int)).toNat = n + m := by omega
theorem tn_add1 (n : Nat) : ((n : Int) + 1).toNat = n + 1 := by omega
theorem tn_sub1 (n : Nat) : ((n : Int) - 1).toNat = n - 1 := by omega
theorem tn_0 : (0 : Int).toNat = 0 := rfl
theorem tn_1 : (1 : Int).toNat = 1 := rfl
/-! ### Bytes -/
/-- A string's bytes. -/
abbrev B (s : ByteArray) : List UInt8 := s.data.toList
def mkS (l : List UInt8) : ByteArray := ⟨l.toArray⟩
theorem B_mk (l : List UInt8) : B (mkS l) = l := rfl
theorem mk_B (s : ByteArray) : mkS (B s) = s := rfl
theorem B_inj {a b : ByteArray} (h : B a = B b) : a = b := by
  rw [← mk_B a, ← mk_B b, h]
theorem size_B (s : ByteArray) : s.size = (B s).length := by
  cases s
  simp [ByteArray.size, B]
theorem B_app (a b : ByteArray) : B (a ++ b) = B a ++ B b := by simp [B]
theorem mk_app (a b : List UInt8) : mkS a ++ mkS b = mkS (a ++ b) := B_inj (by rw [B_app]; rfl)
theorem B_ext (s : ByteArray) (a b : Nat) : B (s.extract a b) = ((B s).drop a).take (b - a) := by
  obtain ⟨⟨l⟩⟩ := s
  rw [ByteArray.extract_mk]
theorem toList_B (s : ByteArray) : s.toList = B s := ByteArray.toList_eq s
theorem beq_S (a b : ByteArray) : (a.toList == b.toList) = decide (a = b) := by
  rw [toList_B, toList_B, Bool.eq_iff_iff, beq_iff_eq, decide_eq_true_eq]
  exact ⟨B_inj, fun h => by rw [h]⟩
theorem bt_nat (s : ByteArray) (i : Nat) : bt s (i : Int) = (((B s).getD i 0).toNat : Int) := rfl
theorem B_strOf (xs : List Int) : B (strOf xs) = xs.map fun n => UInt8.ofNat n.toNat := rfl
theorem B_ext0 (s : ByteArray) (k : Nat) : B (s.extract 0 k) = (B s).take k := by rw [B_ext]; simp
theorem B_exte (s : ByteArray) (k : Nat) : B (s.extract k s.size) = (B s).drop k := by rw [B_ext, size_B, List.take_of_length_le (by simp)]
theorem first_of {c : UInt8} {l : List UInt8} : c ∉ l ∨ ∃ a b, l = a ++ c :: b ∧ c ∉ a := by
  by_cases h : c ∈ l
  · obtain ⟨a, b, h1, h2⟩ := List.eq_append_cons_of_mem h
    exact .inr ⟨a, b, h1, h2⟩
  · exact .inl h
theorem indexByte_none {c : UInt8} : ∀ {l : List UInt8}, c ∉ l → Lib.indexByte l c = -1
  | [], _ => rfl
  | b :: l, h => by
    simp only [List.mem_cons, not_or] at h
    unfold Lib.indexByte
    rw [if_neg (by simpa using Ne.symm h.1), indexByte_none h.2]
    decide
theorem indexByte_some {c : UInt8} {r : List UInt8} : ∀ {a : List UInt8}, c ∉ a → Lib.indexByte (a ++ c :: r) c = (a.length : Int)
  | [], _ => by simp [Lib.indexByte]
  | b :: a, h => by
    simp only [List.mem_cons, not_or] at h
    have ih := indexByte_some (r := r) h.2
    show (if (b == c) = true then (0 : Int) else if (Lib.indexByte (a ++ c :: r) c == -1) = true then -1 else Lib.indexByte (a ++ c :: r) c + 1) = _
    rw [if_neg (by simpa using Ne.symm h.1), ih, if_neg (by simp)]
    simp
/-- The pieces between the places of a byte. -/
def segs (c : UInt8) : List UInt8 → List (List UInt8)
  | [] => [[]]
  | b :: l => if b = c then [] :: segs c l else match segs c l with | [] => [[b]] | s :: r => (b :: s) :: r
theorem segs_none {c : UInt8} : ∀ {l : List UInt8}, c ∉ l → segs c l = [l]
  | [], _ => rfl
  | b :: l, h => by
    simp only [List.mem_cons, not_or] at h
    simp only [segs]
    rw [if_neg (Ne.symm h.1), segs_none h.2]
theorem segs_some {c : UInt8} {r : List UInt8} : ∀ {a : List UInt8}, c ∉ a → segs c (a ++ c :: r) = a :: segs c r
  | [], _ => by simp [segs]
  | b :: a, h => by
    simp only [List.mem_cons, not_or] at h
    simp only [List.cons_append, segs]
    rw [if_neg (Ne.symm h.1), segs_some h.2]
theorem segs_ne (c : UInt8) : ∀ l, segs c l ≠ []
  | [] => by simp [segs]
  | b :: l => by
    simp only [segs]
    split
    · simp
    · split <;> simp
theorem getD_app_left {α : Type} (a b : List α) (i : Nat) (d : α) (h : i < a.length) : (a ++ b).getD i d = a.getD i d := by
  simp [List.getD_eq_getElem?_getD, List.getElem?_append_left h]
/-! ### Bytes as numbers -/
def I (l : List UInt8) : List Int := l.map fun b => (b.toNat : Int)
theorem I_len (l : List UInt8) : (I l).length = l.length := by simp [I]
theorem I_getD (l : List UInt8) (i : Nat) : (I l).getD i 0 = ((l.getD i 0).toNat : Int) := by
  simp only [I, List.getD_eq_getElem?_getD, List.getElem?_map]
  cases l[i]? <;> rfl
theorem I_app (a b : List UInt8) : I (a ++ b) = I a ++ I b := by simp [I]
theorem I_take (l : List UInt8) (k : Nat) : (I l).take k = I (l.take k) := by simp [I]
theorem I_drop (l : List UInt8) (k : Nat) : (I l).drop k = I (l.drop k) := by simp [I]
theorem bytesOf_B (s : ByteArray) : bytesOf s = I (B s) := rfl
theorem strOf_I (l : List UInt8) : strOf (I l) = mkS l := B_inj (by
  rw [B_strOf, B_mk, I, List.map_map]
  refine (List.map_congr_left fun x _ => ?_).trans (List.map_id l)
  simp [Function.comp])
theorem okI {a : List Int} (h : ∀ x ∈ a, okInt .u8 x) : a = I (a.map fun n => UInt8.ofNat n.toNat) := by
  simp only [I, List.map_map]
  refine (List.map_id a).symm.trans (List.map_congr_left fun x hx => ?_)
  have h1 := h x hx
  simp only [okInt] at h1
  have h2 : (0 : Int) ≤ x ∧ x ≤ 255 := h1
  simp only [Function.comp, id, UInt8.toNat_ofNat']
  omega
/-- A loop that goes on. -/
theorem loop_to {α : Type} (F : Nat → α) : ∀ {k i : Nat}, i ≤ k → (∀ j, i ≤ j → j < k → F j = F (j + 1)) → F i = F k
  | 0, i, h, _ => by have : i = 0 := by omega
                     rw [this]
  | k + 1, i, h, hs => by
    by_cases he : i = k + 1
    · rw [he]
    · rw [loop_to F (k := k) (i := i) (by omega) fun j h1 h2 => hs j h1 (by omega)]
      exact hs k (by omega) (by omega)
theorem first_bad (p : Nat → Bool) : ∀ n, (∀ i, i < n → p i = false) ∨ ∃ k, k < n ∧ p k = true ∧ ∀ i, i < k → p i = false
  | 0 => .inl fun i h => by omega
  | n + 1 => by
    rcases first_bad p n with h | ⟨k, h1, h2, h3⟩
    · cases hn : p n with
      | false =>
        refine .inl fun i hi => ?_
        by_cases he : i = n
        · rw [he]; exact hn
        · exact h i (by omega)
      | true => exact .inr ⟨n, by omega, hn, h⟩
    · exact .inr ⟨k, by omega, h2, h3⟩
theorem map_getD {α β : Type} (f : α → β) (l : List α) (i : Nat) (d : α) (e : β) (h : i < l.length) : (l.map f).getD i e = f (l.getD i d) := by
  simp [List.getD_eq_getElem?_getD, h]
theorem drop_cons {α : Type} (l : List α) (i : Nat) (d : α) (h : i < l.length) : l.drop i = l.getD i d :: l.drop (i + 1) := by
  rw [List.getD_eq_getElem?_getD, List.getElem?_eq_getElem h, Option.getD_some]
  exact List.drop_eq_getElem_cons h
end Go.GV
