/-
Part of the words that the laws of this seat are proved with: no statement of its own, no conditions.
-/
import Derived.Test.YtkkfgajlnpcpcaaGreatDoorZ10
set_option linter.unusedVariables false
set_option linter.unusedSimpArgs false
namespace Go.GV
theorem wr {x : Int} (h1 : -9223372036854775808 ≤ x) (h2 : x ≤ 9223372036854775807) : IntKind.i64.wrap x = x := Go.IntWalk.i64_in x ⟨h1, h2⟩
theorem wr_nat {n : Nat} (h : n < 9223372036854775807) : IntKind.i64.wrap ((n : Int) + 1) = ((n + 1 : Nat) : Int) := by rw [wr (by omega) (by omega)]; omega
theorem u8_int (c d : UInt8) : ((c.toNat : Int) = (d.toNat : Int)) ↔ c = d := by
 constructor
 ·intro h
  exact UInt8.toNat_inj.1 (by omega)
 ·rintro rfl; rfl
theorem u8_eq (c : UInt8) (n : Nat) (h : n < 256) : ((c.toNat : Int) = (n : Int)) ↔ c = UInt8.ofNat n := by
 have := u8_int c (UInt8.ofNat n)
 rw [UInt8.toNat_ofNat', Nat.mod_eq_of_lt (by simpa using h)] at this
 exact this
theorem u8_bd (c : UInt8) : (0 : Int) ≤ (c.toNat : Int) ∧ (c.toNat : Int) < 256 := ⟨by omega, by have := c.toNat_lt; omega⟩
section
variable {α : Type} {p : Prop} [Decidable p] {a b : α}
theorem cd_pos (h : p) : (bif decide p then a else b) = a := by simp [h]
theorem cd_neg (h : ¬ p) : (bif decide p then a else b) = b := by simp [h]
end
theorem dp {p : Prop} [Decidable p] (h : p) : decide p = true := decide_eq_true h
theorem dn {p : Prop} [Decidable p] (h : ¬ p) : decide p = false := decide_eq_false h
theorem tn_add (n m : Nat) : ((n : Int) + (m : Int)).toNat = n + m := by omega
theorem tn_add1 (n : Nat) : ((n : Int) + 1).toNat = n + 1 := by omega
theorem tn_sub1 (n : Nat) : ((n : Int) - 1).toNat = n - 1 := by omega
theorem tn_0 : (0 : Int).toNat = 0 := rfl
theorem tn_1 : (1 : Int).toNat = 1 := rfl
theorem ss : (∀ (p : Prop) [Decidable p], p → decide p = true) ∧ (∀ (p : Prop) [Decidable p], ¬ p → decide p = false) ∧ (∀ (h : Decidable True), @decide True h = true) ∧ (∀ (h : Decidable False), @decide False h = false) ∧
  ((!true) = false) ∧ ((!false) = true) ∧ (∀ b, (true && b) = b) ∧ (∀ b, (false && b) = false) ∧ (∀ b, (b && true) = b) ∧ (∀ b, (b && false) = false) ∧
  (∀ b, (true || b) = true) ∧ (∀ b, (false || b) = b) ∧ (∀ b, (b || true) = true) ∧ (∀ b, (b || false) = b) ∧ (∀ (x : Int), -9223372036854775808 ≤ x → x ≤ 9223372036854775807 → IntKind.i64.wrap x = x) ∧
  (∀ n m : Nat, ((n : Int) + (m : Int)).toNat = n + m) ∧ (∀ n : Nat, ((n : Int) + 1).toNat = n + 1) ∧ (∀ n : Nat, ((n : Int) - 1).toNat = n - 1) ∧ ((0 : Int).toNat = 0) ∧ ((1 : Int).toNat = 1) ∧ (∀ n : Nat, (n : Int).toNat = n) :=
 ⟨fun _ => dp, fun _ => dn, fun _ => decide_true _, fun _ => decide_false _, rfl, rfl, Bool.true_and, Bool.false_and, Bool.and_true, Bool.and_false, Bool.true_or, Bool.false_or, Bool.or_true, Bool.or_false, fun _ => wr, tn_add, tn_add1, tn_sub1, tn_0, tn_1, fun _ => rfl⟩
abbrev B (s : ByteArray) : List UInt8 := s.data.toList
def mkS (l : List UInt8) : ByteArray := ⟨l.toArray⟩
theorem B_mk (l : List UInt8) : B (mkS l) = l := rfl
theorem mk_B (s : ByteArray) : mkS (B s) = s := rfl
theorem B_inj {a b : ByteArray} (h : B a = B b) : a = b := by
 rw [← mk_B a, ← mk_B b, h]
theorem size_B (s : ByteArray) : s.size = (B s).length := by
 cases s
 simp [ByteArray.size, B]
theorem B_app (a b : ByteArray) : B (a ++ b) = B a ++ B b := by simp [B]
theorem mk_app (a b : List UInt8) : mkS a ++ mkS b = mkS (a ++ b) := B_inj (by rw [B_app]; rfl)
theorem B_ext (s : ByteArray) (a b : Nat) : B (s.extract a b) = ((B s).drop a).take (b - a) := by
 obtain ⟨⟨l⟩⟩ := s
 rw [ByteArray.extract_mk]
theorem toList_B (s : ByteArray) : s.toList = B s := ByteArray.toList_eq s
theorem beq_S (a b : ByteArray) : (a.toList == b.toList) = decide (a = b) := by
 rw [toList_B, toList_B, Bool.eq_iff_iff, beq_iff_eq, decide_eq_true_eq]
 exact ⟨B_inj, fun h => by rw [h]⟩
theorem bt_nat (s : ByteArray) (i : Nat) : bt s (i : Int) = (((B s).getD i 0).toNat : Int) := rfl
theorem B_strOf (xs : List Int) : B (strOf xs) = xs.map fun n => UInt8.ofNat n.toNat := rfl
theorem B_ext0 (s : ByteArray) (k : Nat) : B (s.extract 0 k) = (B s).take k := by rw [B_ext]; simp
theorem B_exte (s : ByteArray) (k : Nat) : B (s.extract k s.size) = (B s).drop k := by rw [B_ext, size_B, List.take_of_length_le (by simp)]
theorem first_of {c : UInt8} {l : List UInt8} : c ∉ l ∨ ∃ a b, l = a ++ c :: b ∧ c ∉ a := by
 by_cases h : c ∈ l
 ·obtain ⟨a, b, h1, h2⟩ := List.eq_append_cons_of_mem h
  exact .inr ⟨a, b, h1, h2⟩
 ·exact .inl h
theorem indexByte_none {c : UInt8} : ∀ {l : List UInt8}, c ∉ l → Lib.indexByte l c = -1
 | [], _ => rfl
 | b :: l, h => by
  simp only [List.mem_cons, not_or] at h
  unfold Lib.indexByte
  rw [if_neg (by simpa using Ne.symm h.1), indexByte_none h.2]
  decide
theorem indexByte_some {c : UInt8} {r : List UInt8} : ∀ {a : List UInt8}, c ∉ a → Lib.indexByte (a ++ c :: r) c = (a.length : Int)
 | [], _ => by simp [Lib.indexByte]
 | b :: a, h => by
  simp only [List.mem_cons, not_or] at h
  have ih := indexByte_some (r := r) h.2
  show (if (b == c) = true then (0 : Int) else if (Lib.indexByte (a ++ c :: r) c == -1) = true then -1 else Lib.indexByte (a ++ c :: r) c + 1) = _
  rw [if_neg (by simpa using Ne.symm h.1), ih, if_neg (by simp)]
  simp
def segs (c : UInt8) : List UInt8 → List (List UInt8)
 | [] => [[]]
 | b :: l => if b = c then [] :: segs c l else match segs c l with | [] => [[b]] | s :: r => (b :: s) :: r
theorem segs_none {c : UInt8} : ∀ {l : List UInt8}, c ∉ l → segs c l = [l]
 | [], _ => rfl
 | b :: l, h => by
  simp only [List.mem_cons, not_or] at h
  simp only [segs]
  rw [if_neg (Ne.symm h.1), segs_none h.2]
theorem segs_some {c : UInt8} {r : List UInt8} : ∀ {a : List UInt8}, c ∉ a → segs c (a ++ c :: r) = a :: segs c r
 | [], _ => by simp [segs]
 | b :: a, h => by
  simp only [List.mem_cons, not_or] at h
  simp only [List.cons_append, segs]
  rw [if_neg (Ne.symm h.1), segs_some h.2]
theorem segs_ne (c : UInt8) : ∀ l, segs c l ≠ []
 | [] => by simp [segs]
 | b :: l => by
  simp only [segs]
  split
  ·simp
  ·split <;> simp
def I (l : List UInt8) : List Int := l.map fun b => (b.toNat : Int)
theorem strOf_I (l : List UInt8) : strOf (I l) = mkS l := B_inj (by
 rw [B_strOf, B_mk, I, List.map_map]
 refine (List.map_congr_left fun x _ => ?_).trans (List.map_id l)
 simp [Function.comp])
theorem okI {a : List Int} (h : ∀ x ∈ a, okInt .u8 x) : a = I (a.map fun n => UInt8.ofNat n.toNat) := by
 simp only [I, List.map_map]
 refine (List.map_id a).symm.trans (List.map_congr_left fun x hx => ?_)
 have h1 := h x hx
 simp only [okInt] at h1
 have h2 : (0 : Int) ≤ x ∧ x ≤ 255 := h1
 simp only [Function.comp, id, UInt8.toNat_ofNat']
 omega
theorem drop_cons {α : Type} (l : List α) (i : Nat) (d : α) (h : i < l.length) : l.drop i = l.getD i d :: l.drop (i + 1) := by
 rw [List.getD_eq_getElem?_getD, List.getElem?_eq_getElem h, Option.getD_some]
 exact List.drop_eq_getElem_cons h
end Go.GV
namespace Go.GV.YtkkfgajlnpcpcaaGreatDoor
open Go.Proofs
theorem sz1 (c : UInt8) : (mkS [c]).size = 1 := rfl
theorem slIndex_one (s : ByteArray) (c : UInt8) : stringslite_Index.f s (mkS [c]) = some (Lib.indexByte (B s) c, ()) := by
 rw [stringslite_Index.f_eq, sz1]
 rw [beq_S]
 by_cases h : mkS [c] = s
 ·subst h
  simp [B_mk, Lib.indexByte]
 ·have hb : (bt (mkS [c]) 0).toNat.toUInt8 = c := by
   show ((c.toNat : Int).toNat).toUInt8 = c
   simp
  simp (disch := omega) only [cd_pos, cd_neg, cd_neg h, stringslite_IndexByte.f_eq, bytealg_IndexByteString.f_sem, Option.bind_some]
  show some (Lib.indexByte (B s) (bt (mkS [c]) 0).toNat.toUInt8, ()) = _
  rw [hb]
theorem index_one (s : ByteArray) (c : UInt8) : strings_Index.f s (mkS [c]) = some (Lib.indexByte (B s) c, ()) := by
 rw [strings_Index.f_eq, slIndex_one]; rfl
theorem cut_none {s : ByteArray} {c : UInt8} (h : c ∉ B s) : strings_Cut.f s (mkS [c]) = some (s, mkS [], false, ()) := by
 rw [strings_Cut.f_eq, stringslite_Cut.f_eq, slIndex_one, indexByte_none h]
 rfl
theorem cut_some {c : UInt8} {a b : List UInt8} (hs : a.length + b.length < 9223372036854775800) (h : c ∉ a) : strings_Cut.f (mkS (a ++ c :: b)) (mkS [c]) = some (mkS a, mkS b, true, ()) := by
 rw [strings_Cut.f_eq, stringslite_Cut.f_eq, slIndex_one, B_mk, indexByte_some h]
 have hsz : (mkS (a ++ c :: b)).size = a.length + b.length + 1 := by rw [size_B, B_mk]; simp; omega
 have hw : IntKind.i64.wrap ((a.length : Int) + 1) = ((a.length + 1 : Nat) : Int) := wr_nat (by omega)
 have e1 : (mkS (a ++ c :: b)).extract 0 a.length = mkS a := B_inj (by rw [B_ext0, B_mk]; simp [B_mk])
 have e2 : (mkS (a ++ c :: b)).extract (a.length + 1) (a.length + b.length + 1) = mkS b := B_inj (by rw [← hsz, B_exte, B_mk]; simp [B_mk, List.drop_append])
 simp (disch := omega) only [cd_pos, cd_neg, hsz, sz1, wr, Option.bind_some, tn_add, tn_add1, Int.toNat_natCast, e1, e2, Int.natCast_one]
theorem count_one (s : ByteArray) (c : UInt8) : strings_Count.f s (mkS [c]) = some ((((B s).count c : Nat) : Int), ()) := by
 have hb : (bt (mkS [c]) 0).toNat.toUInt8 = c := by
  show ((c.toNat : Int).toNat).toUInt8 = c
  simp
 rw [strings_Count.f_eq, sz1]
 simp (disch := omega) only [cd_pos, cd_neg, bytealg_CountString.f_sem, Option.bind_some]
 show some (((Lib.countByte (B s) (bt (mkS [c]) 0).toNat.toUInt8 : Nat) : Int), ()) = _
 rw [hb]
 rfl
theorem genSplit_l2 {c : UInt8} (hc : True) : ∀ (k n i : Nat) (s : List UInt8) (y : List ByteArray), n - i = k → i ≤ n → y.length = n + 1 → s.count c = n - i → n < 4611686018427387904 → s.length < 4611686018427387904 →
  strings_genSplit.l2 (mkS s) (mkS [c]) 0 n i y = some (y.take i ++ (segs c s).map mkS, ()) := by
 intro k
 induction k with
 | zero =>
  intro n i s y hk hi hy hcn hn hs
  have e : i = n := by omega
  subst e
  have hno : c ∉ s := by rw [← List.count_eq_zero]; omega
  have hw : IntKind.i64.wrap ((i : Int) + 1) = ((i + 1 : Nat) : Int) := wr_nat (by omega)
  rw [strings_genSplit.l2_eq, segs_none hno]
  simp (disch := omega) only [cd_pos, cd_neg, wr, List.length_set, hy, tn_add1, Int.toNat_natCast]
  rw [List.take_add_one, List.take_set_of_le (Nat.le_refl _)]
  simp [show i < y.length by omega]
 | succ k ih =>
  intro n i s y hk hi hy hcn hn hs
  rcases first_of (c := c) (l := s) with h | ⟨a, b, rfl, ha⟩
  ·rw [List.count_eq_zero.2 h] at hcn; omega
  ·have hca : a.count c = 0 := List.count_eq_zero.2 ha
   have hcb : b.count c = n - (i + 1) := by
    rw [List.count_append, hca, List.count_cons_self] at hcn; omega
   have hl : a.length + b.length + 1 = (a ++ c :: b).length := by simp; omega
   have hsz : (mkS (a ++ c :: b)).size = a.length + b.length + 1 := by rw [size_B, B_mk, hl]
   have hw : IntKind.i64.wrap ((i : Int) + 1) = ((i + 1 : Nat) : Int) := wr_nat (by omega)
   have hw2 : IntKind.i64.wrap ((a.length : Int) + 1) = ((a.length + 1 : Nat) : Int) := wr_nat (by omega)
   have hw3 : IntKind.i64.wrap ((a.length : Int)) = ((a.length : Nat) : Int) := wr (by omega) (by omega)
   have e1 : (mkS (a ++ c :: b)).extract 0 a.length = mkS a := B_inj (by rw [B_ext0, B_mk]; simp [B_mk])
   have e2 : (mkS (a ++ c :: b)).extract (a.length + 1) (a.length + b.length + 1) = mkS b := B_inj (by rw [← hsz, B_exte, B_mk]; simp [B_mk, List.drop_append])
   have hrec := ih n (i + 1) b (y.set i (mkS a)) (by omega) (by omega) (by simpa using hy) hcb hn (by simp at hs; omega)
   rw [strings_genSplit.l2_eq, index_one, B_mk, indexByte_some ha, segs_some ha]
   have h1 : i < n := by omega
   have h2 : i < y.length := by omega
   rw [Int.natCast_add, Int.natCast_one] at hrec
   simp (disch := omega) only [cd_pos, cd_neg, wr, hsz, sz1, Option.bind_some, tn_add, tn_add1, Int.toNat_natCast, Int.add_zero, e1, e2, Int.natCast_one, hrec]
   rw [List.take_add_one, List.take_set_of_le (Nat.le_refl _)]
   simp [h2]
theorem split_one {c : UInt8} (s : List UInt8) (hs : s.length < 2147483648) : strings_Split.f (mkS s) (mkS [c]) = some ((segs c s).map mkS, ()) := by
 have hsz : (mkS s).size = s.length := by rw [size_B, B_mk]
 have hcl : s.count c ≤ s.length := List.count_le_length
 have hw : IntKind.i64.wrap (((s.count c : Nat) : Int) + 1) = ((s.count c + 1 : Nat) : Int) := wr_nat (by omega)
 have hw2 : IntKind.i64.wrap (((s.length : Nat) : Int) + 1) = ((s.length + 1 : Nat) : Int) := wr_nat (by omega)
 have hw3 : IntKind.i64.wrap (((s.count c + 1 : Nat) : Int) - 1) = ((s.count c : Nat) : Int) := by rw [wr (by omega) (by omega)]; omega
 have hmm : mm false ((s.count c + 1 : Nat) : Int) ((s.length + 1 : Nat) : Int) = ((s.count c + 1 : Nat) : Int) := by
  simp only [mm, cond_false]
  split
  ·omega
  ·rfl
 rw [strings_Split.f_eq, strings_genSplit.f_eq]
 have hne : ((mkS [c]).toList == (⟨#[]⟩ : ByteArray).toList) = false := by
  rw [beq_S]
  simp only [decide_eq_false_iff_not]
  intro h
  have := congrArg ByteArray.size h
  rw [sz1] at this
  cases this
 rw [hne, count_one, B_mk]
 simp (disch := omega) only [cd_pos, cd_neg, cond_false, Option.bind_some, hw]
 rw [strings_genSplit.l1_eq, hsz, hw2, hmm, hw3]
 have hml : makeL .str ((s.count c + 1 : Nat) : Int) = List.replicate (s.count c + 1) ByteArray.empty := rfl
 rw [hml]
 have h2 := genSplit_l2 (c := c) trivial (s.count c) (s.count c) 0 s (List.replicate (s.count c + 1) ByteArray.empty) (by omega) (by omega) (by simp) (by omega) (by omega) (by omega)
 rw [show ((0 : Nat) : Int) = 0 from rfl] at h2
 rw [h2]
 simp (disch := omega) only [guards, makeG, cd_pos, cd_neg, decide_true, cond_true, Option.bind_some, List.take_zero, List.nil_append]
theorem slHasPrefix_one (s : List UInt8) (c : UInt8) : stringslite_HasPrefix.f (mkS s) (mkS [c]) = some (decide (s.head? = some c), ()) := by
 have hsz : (mkS s).size = s.length := by rw [size_B, B_mk]
 rw [stringslite_HasPrefix.f_eq, sz1, hsz]
 cases s with
 | nil => simp
 | cons b l =>
  have e : (mkS (b :: l)).extract 0 1 = mkS [b] := B_inj (by rw [B_ext0]; rfl)
  simp (disch := omega) only [cd_pos, cd_neg, Option.bind_some, beq_S, List.length_cons, Int.toNat_natCast, e, List.head?_cons]
  have hd : (mkS [b] = mkS [c]) ↔ (some b = some c) := ⟨fun h => by have := congrArg B h; simpa [B_mk] using this, fun h => by cases h; rfl⟩
  have hd2 : decide (mkS [b] = mkS [c]) = decide (some b = some c) := decide_eq_decide.2 hd
  rw [hd2]
  simp
end Go.GV.YtkkfgajlnpcpcaaGreatDoor
namespace Go.GV
theorem wr_sub1 {n : Nat} (h0 : 0 < n) (h : n < 4611686018427387904) : IntKind.i64.wrap ((n : Int) - 1) = ((n - 1 : Nat) : Int) := by rw [wr (by omega) (by omega)]; omega
theorem getD_eq {α : Type} {l : List α} {i : Nat} (z : α) (h : i < l.length) : l.getD i z = l[i] := by simp [List.getD_eq_getElem?_getD, h]
theorem getD_mem' {α : Type} {l : List α} {i : Nat} (z : α) (h : i < l.length) : l.getD i z ∈ l := by rw [getD_eq z h]; exact List.getElem_mem h
theorem drop_getD' {α : Type} {l : List α} {i : Nat} (z : α) (h : i < l.length) : l.drop i = l.getD i z :: l.drop (i + 1) := drop_cons l i z h
theorem take_getD' {α : Type} {l : List α} {i : Nat} (z : α) (h : i < l.length) : l.take (i + 1) = l.take i ++ [l.getD i z] := by rw [List.take_add_one, List.getElem?_eq_getElem h, getD_eq z h]; rfl
theorem ins_sorted {α : Type} {R : α → α → Prop} {l : List α} {x : α} {k : Nat} (hs : l.Pairwise R) (h1 : ∀ a ∈ l.take k, R a x) (h2 : ∀ a ∈ l.drop k, R x a) : (l.take k ++ ([x] ++ l.drop k)).Pairwise R := by
 rw [List.singleton_append]
 refine List.pairwise_append.2 ⟨hs.sublist (List.take_sublist k l), List.pairwise_cons.2 ⟨h2, hs.sublist (List.drop_sublist k l)⟩, ?_⟩
 intro a ha b hb
 rcases List.mem_cons.1 hb with rfl | hb
 ·exact h1 a ha
 ·have := hs
  rw [← List.take_append_drop k l] at this
  exact (List.pairwise_append.1 this).2.2 a ha b hb
theorem ins_perm {α : Type} (l : List α) (x : α) (k : Nat) : (l.take k ++ ([x] ++ l.drop k)).Perm (x :: l) := by
 have h : (l.take k ++ ([x] ++ l.drop k)).Perm (x :: (l.take k ++ l.drop k)) := by
  rw [List.singleton_append]; exact List.perm_middle
 rwa [List.take_append_drop] at h
theorem mm_max (a b : Int) : mm true a b = max a b := by
 unfold mm
 simp only [cond_true]
 split <;> omega
end Go.GV
