/-
GV: plain words and laws for what cards come to: bytes, numbers, lists. No program here. (This session's own text.)
-/
import Derived.Test.YtlfiapleboklcaaDoorGvSeat
set_option linter.unusedVariables false
set_option linter.unusedSimpArgs false
namespace Go.GV

/-! ### Numbers -/
theorem wr {x : Int} (h1 : -9223372036854775808 ≤ x) (h2 : x ≤ 9223372036854775807) : IntKind.i64.wrap x = x := Go.IntWalk.i64_in x ⟨h1, h2⟩
theorem wr_nat {n : Nat} (h : n < 9223372036854775807) : IntKind.i64.wrap ((n : Int) + 1) = ((n + 1 : Nat) : Int) := by rw [wr (by omega) (by omega)]; omega
theorem u8_int (c d : UInt8) : ((c.toNat : Int) = (d.toNat : Int)) ↔ c = d := by
  constructor
  · intro h
    exact UInt8.toNat_inj.1 (by omega)
  · rintro rfl; rfl
theorem u8_eq (c : UInt8) (n : Nat) (h : n < 256) : ((c.toNat : Int) = (n : Int)) ↔ c = UInt8.ofNat n := by
  have := u8_int c (UInt8.ofNat n)
  rw [UInt8.toNat_ofNat', Nat.mod_eq_of_lt (by simpa using h)] at this
  exact this
theorem u8_bd (c : UInt8) : (0 : Int) ≤ (c.toNat : Int) ∧ (c.toNat : Int) < 256 := ⟨by omega, by have := c.toNat_lt; omega⟩

section
variable {α : Type} {p : Prop} [Decidable p] {a b : α}
theorem cd_pos (h : p) : (bif decide p then a else b) = a := by simp [h]
theorem cd_neg (h : ¬ p) : (bif decide p then a else b) = b := by simp [h]
theorem cn_pos (h : p) : (bif !decide p then a else b) = b := by simp [h]
theorem cn_neg (h : ¬ p) : (bif !decide p then a else b) = a := by simp [h]
end
theorem tn_add (n m : Nat) : ((n : Int) + (m : Int)).toNat = n + m := by omega
theorem tn_add1 (n : Nat) : ((n : Int) + 1).toNat = n + 1 := by omega
theorem tn_sub1 (n : Nat) : ((n : Int) - 1).toNat = n - 1 := by omega
theorem tn_0 : (0 : Int).toNat = 0 := rfl
theorem tn_1 : (1 : Int).toNat = 1 := rfl
/-! ### Bytes -/
/-- A string's bytes. -/
abbrev B (s : ByteArray) : List UInt8 := s.data.toList
def mkS (l : List UInt8) : ByteArray := ⟨l.toArray⟩
theorem B_mk (l : List UInt8) : B (mkS l) = l := rfl
theorem mk_B (s : ByteArray) : mkS (B s) = s := rfl
theorem B_inj {a b : ByteArray} (h : B a = B b) : a = b := by
  rw [← mk_B a, ← mk_B b, h]
theorem size_B (s : ByteArray) : s.size = (B s).length := by
  cases s
  simp [ByteArray.size, B]
theorem B_app (a b : ByteArray) : B (a ++ b) = B a ++ B b := by simp [B]
theorem mk_app (a b : List UInt8) : mkS a ++ mkS b = mkS (a ++ b) := B_inj (by rw [B_app]; rfl)
theorem B_ext (s : ByteArray) (a b : Nat) : B (s.extract a b) = ((B s).drop a).take (b - a) := by
  obtain ⟨⟨l⟩⟩ := s
  rw [ByteArray.extract_mk]
theorem toList_B (s : ByteArray) : s.toList = B s := ByteArray.toList_eq s
theorem beq_S (a b : ByteArray) : (a.toList == b.toList) = decide (a = b) := by
  rw [toList_B, toList_B, Bool.eq_iff_iff, beq_iff_eq, decide_eq_true_eq]
  exact ⟨B_inj, fun h => by rw [h]⟩
theorem bt_nat (s : ByteArray) (i : Nat) : bt s (i : Int) = (((B s).getD i 0).toNat : Int) := rfl
theorem B_strOf (xs : List Int) : B (strOf xs) = xs.map fun n => UInt8.ofNat n.toNat := rfl
theorem B_ext0 (s : ByteArray) (k : Nat) : B (s.extract 0 k) = (B s).take k := by rw [B_ext]; simp
theorem B_exte (s : ByteArray) (k : Nat) : B (s.extract k s.size) = (B s).drop k := by rw [B_ext, size_B, List.take_of_length_le (by simp)]
theorem first_of {c : UInt8} {l : List UInt8} : c ∉ l ∨ ∃ a b, l = a ++ c :: b ∧ c ∉ a := by
  by_cases h : c ∈ l
  · obtain ⟨a, b, h1, h2⟩ := List.eq_append_cons_of_mem h
    exact .inr ⟨a, b, h1, h2⟩
  · exact .inl h
theorem indexByte_none {c : UInt8} : ∀ {l : List UInt8}, c ∉ l → Lib.indexByte l c = -1
  | [], _ => rfl
  | b :: l, h => by
    simp only [List.mem_cons, not_or] at h
    unfold Lib.indexByte
    rw [if_neg (by simpa using Ne.symm h.1), indexByte_none h.2]
    decide
theorem indexByte_some {c : UInt8} {r : List UInt8} : ∀ {a : List UInt8}, c ∉ a → Lib.indexByte (a ++ c :: r) c = (a.length : Int)
  | [], _ => by simp [Lib.indexByte]
  | b :: a, h => by
    simp only [List.mem_cons, not_or] at h
    have ih := indexByte_some (r := r) h.2
    show (if (b == c) = true then (0 : Int) else if (Lib.indexByte (a ++ c :: r) c == -1) = true then -1 else Lib.indexByte (a ++ c :: r) c + 1) = _
    rw [if_neg (by simpa using Ne.symm h.1), ih, if_neg (by simp)]
    simp
/-- The pieces between the places of a byte. -/
def segs (c : UInt8) : List UInt8 → List (List UInt8)
  | [] => [[]]
  | b :: l => if b = c then [] :: segs c l else match segs c l with | [] => [[b]] | s :: r => (b :: s) :: r
theorem segs_none {c : UInt8} : ∀ {l : List UInt8}, c ∉ l → segs c l = [l]
  | [], _ => rfl
  | b :: l, h => by
    simp only [List.mem_cons, not_or] at h
    simp only [segs]
    rw [if_neg (Ne.symm h.1), segs_none h.2]
theorem segs_some {c : UInt8} {r : List UInt8} : ∀ {a : List UInt8}, c ∉ a → segs c (a ++ c :: r) = a :: segs c r
  | [], _ => by simp [segs]
  | b :: a, h => by
    simp only [List.mem_cons, not_or] at h
    simp only [List.cons_append, segs]
    rw [if_neg (Ne.symm h.1), segs_some h.2]
theorem segs_ne (c : UInt8) : ∀ l, segs c l ≠ []
  | [] => by simp [segs]
  | b :: l => by
    simp only [segs]
    split
    · simp
    · split <;> simp
theorem getD_app_left {α : Type} (a b : List α) (i : Nat) (d : α) (h : i < a.length) : (a ++ b).getD i d = a.getD i d := by
  simp [List.getD_eq_getElem?_getD, List.getElem?_append_left h]
end Go.GV
