/-
What the functions of package strings come to that this program reaches, where the separator is one byte. (This session's own text.)
-/
import Derived.Test.YtkkfgajlnpcpcaaGreatDoorK1
import Derived.Test.YtkkfgajlnpcpcaaGreatDoorGvPlain
set_option linter.unusedVariables false
set_option linter.unusedSimpArgs false
namespace Go.GV.YtkkfgajlnpcpcaaGreatDoor
open Go.Proofs
theorem sz1 (c : UInt8) : (mkS [c]).size = 1 := rfl
theorem slIndex_one (s : ByteArray) (c : UInt8) : stringslite_Index.f s (mkS [c]) = some (Lib.indexByte (B s) c, ()) := by
  rw [stringslite_Index.f_eq, sz1]
  rw [beq_S]
  by_cases h : mkS [c] = s
  · subst h
    simp [B_mk, Lib.indexByte]
  · have hb : (bt (mkS [c]) 0).toNat.toUInt8 = c := by
      show ((c.toNat : Int).toNat).toUInt8 = c
      simp
    simp (disch := omega) only [cd_pos, cd_neg, cd_neg h, stringslite_IndexByte.f_eq, bytealg_IndexByteString.f_sem, Option.bind_some]
    show some (Lib.indexByte (B s) (bt (mkS [c]) 0).toNat.toUInt8, ()) = _
    rw [hb]
theorem index_one (s : ByteArray) (c : UInt8) : strings_Index.f s (mkS [c]) = some (Lib.indexByte (B s) c, ()) := by
  rw [strings_Index.f_eq, slIndex_one]; rfl
theorem cut_none {s : ByteArray} {c : UInt8} (h : c ∉ B s) : strings_Cut.f s (mkS [c]) = some (s, mkS [], false, ()) := by
  rw [strings_Cut.f_eq, stringslite_Cut.f_eq, slIndex_one, indexByte_none h]
  rfl
theorem cut_some {c : UInt8} {a b : List UInt8} (hs : a.length + b.length < 9223372036854775800) (h : c ∉ a) : strings_Cut.f (mkS (a ++ c :: b)) (mkS [c]) = some (mkS a, mkS b, true, ()) := by
  rw [strings_Cut.f_eq, stringslite_Cut.f_eq, slIndex_one, B_mk, indexByte_some h]
  have hsz : (mkS (a ++ c :: b)).size = a.length + b.length + 1 := by rw [size_B, B_mk]; simp; omega
  have hw : IntKind.i64.wrap ((a.length : Int) + 1) = ((a.length + 1 : Nat) : Int) := wr_nat (by omega)
  have e1 : (mkS (a ++ c :: b)).extract 0 a.length = mkS a := B_inj (by rw [B_ext0, B_mk]; simp [B_mk])
  have e2 : (mkS (a ++ c :: b)).extract (a.length + 1) (a.length + b.length + 1) = mkS b := B_inj (by rw [← hsz, B_exte, B_mk]; simp [B_mk, List.drop_append])
  simp (disch := omega) only [cd_pos, cd_neg, hsz, sz1, wr, Option.bind_some, tn_add, tn_add1, Int.toNat_natCast, e1, e2, Int.natCast_one]
theorem count_one (s : ByteArray) (c : UInt8) : strings_Count.f s (mkS [c]) = some ((((B s).count c : Nat) : Int), ()) := by
  have hb : (bt (mkS [c]) 0).toNat.toUInt8 = c := by
    show ((c.toNat : Int).toNat).toUInt8 = c
    simp
  rw [strings_Count.f_eq, sz1]
  simp (disch := omega) only [cd_pos, cd_neg, bytealg_CountString.f_sem, Option.bind_some]
  show some (((Lib.countByte (B s) (bt (mkS [c]) 0).toNat.toUInt8 : Nat) : Int), ()) = _
  rw [hb]
  rfl
theorem genSplit_l2 {c : UInt8} (hc : True) : ∀ (k n i : Nat) (s : List UInt8) (y : List ByteArray), n - i = k → i ≤ n → y.length = n + 1 → s.count c = n - i → n < 4611686018427387904 → s.length < 4611686018427387904 →
    strings_genSplit.l2 (mkS s) (mkS [c]) 0 n i y = some (y.take i ++ (segs c s).map mkS, ()) := by
  intro k
  induction k with
  | zero =>
    intro n i s y hk hi hy hcn hn hs
    have e : i = n := by omega
    subst e
    have hno : c ∉ s := by rw [← List.count_eq_zero]; omega
    have hw : IntKind.i64.wrap ((i : Int) + 1) = ((i + 1 : Nat) : Int) := wr_nat (by omega)
    rw [strings_genSplit.l2_eq, segs_none hno]
    simp (disch := omega) only [cd_pos, cd_neg, wr, List.length_set, hy, tn_add1, Int.toNat_natCast]
    rw [List.take_add_one, List.take_set_of_le (Nat.le_refl _)]
    simp [show i < y.length by omega]
  | succ k ih =>
    intro n i s y hk hi hy hcn hn hs
    rcases first_of (c := c) (l := s) with h | ⟨a, b, rfl, ha⟩
    · rw [List.count_eq_zero.2 h] at hcn; omega
    · have hca : a.count c = 0 := List.count_eq_zero.2 ha
      have hcb : b.count c = n - (i + 1) := by
        rw [List.count_append, hca, List.count_cons_self] at hcn; omega
      have hl : a.length + b.length + 1 = (a ++ c :: b).length := by simp; omega
      have hsz : (mkS (a ++ c :: b)).size = a.length + b.length + 1 := by rw [size_B, B_mk, hl]
      have hw : IntKind.i64.wrap ((i : Int) + 1) = ((i + 1 : Nat) : Int) := wr_nat (by omega)
      have hw2 : IntKind.i64.wrap ((a.length : Int) + 1) = ((a.length + 1 : Nat) : Int) := wr_nat (by omega)
      have hw3 : IntKind.i64.wrap ((a.length : Int)) = ((a.length : Nat) : Int) := wr (by omega) (by omega)
      have e1 : (mkS (a ++ c :: b)).extract 0 a.length = mkS a := B_inj (by rw [B_ext0, B_mk]; simp [B_mk])
      have e2 : (mkS (a ++ c :: b)).extract (a.length + 1) (a.length + b.length + 1) = mkS b := B_inj (by rw [← hsz, B_exte, B_mk]; simp [B_mk, List.drop_append])
      have hrec := ih n (i + 1) b (y.set i (mkS a)) (by omega) (by omega) (by simpa using hy) hcb hn (by simp at hs; omega)
      rw [strings_genSplit.l2_eq, index_one, B_mk, indexByte_some ha, segs_some ha]
      have h1 : i < n := by omega
      have h2 : i < y.length := by omega
      rw [Int.natCast_add, Int.natCast_one] at hrec
      simp (disch := omega) only [cd_pos, cd_neg, wr, hsz, sz1, Option.bind_some, tn_add, tn_add1, Int.toNat_natCast, Int.add_zero, e1, e2, Int.natCast_one, hrec]
      rw [List.take_add_one, List.take_set_of_le (Nat.le_refl _)]
      simp [h2]
theorem split_one {c : UInt8} (s : List UInt8) (hs : s.length < 2147483648) : strings_Split.f (mkS s) (mkS [c]) = some ((segs c s).map mkS, ()) := by
  have hsz : (mkS s).size = s.length := by rw [size_B, B_mk]
  have hcl : s.count c ≤ s.length := List.count_le_length
  have hw : IntKind.i64.wrap (((s.count c : Nat) : Int) + 1) = ((s.count c + 1 : Nat) : Int) := wr_nat (by omega)
  have hw2 : IntKind.i64.wrap (((s.length : Nat) : Int) + 1) = ((s.length + 1 : Nat) : Int) := wr_nat (by omega)
  have hw3 : IntKind.i64.wrap (((s.count c + 1 : Nat) : Int) - 1) = ((s.count c : Nat) : Int) := by rw [wr (by omega) (by omega)]; omega
  have hmm : mm false ((s.count c + 1 : Nat) : Int) ((s.length + 1 : Nat) : Int) = ((s.count c + 1 : Nat) : Int) := by
    simp only [mm, cond_false]
    split
    · omega
    · rfl
  rw [strings_Split.f_eq, strings_genSplit.f_eq]
  have hne : ((mkS [c]).toList == (⟨#[]⟩ : ByteArray).toList) = false := by
    rw [beq_S]
    simp only [decide_eq_false_iff_not]
    intro h
    have := congrArg ByteArray.size h
    rw [sz1] at this
    cases this
  rw [hne, count_one, B_mk]
  simp (disch := omega) only [cd_pos, cd_neg, cond_false, Option.bind_some, hw]
  rw [strings_genSplit.l1_eq, hsz, hw2, hmm, hw3]
  have hml : makeL .str ((s.count c + 1 : Nat) : Int) = List.replicate (s.count c + 1) ByteArray.empty := rfl
  rw [hml]
  have h2 := genSplit_l2 (c := c) trivial (s.count c) (s.count c) 0 s (List.replicate (s.count c + 1) ByteArray.empty) (by omega) (by omega) (by simp) (by omega) (by omega) (by omega)
  rw [show ((0 : Nat) : Int) = 0 from rfl] at h2
  rw [h2]
  simp (disch := omega) only [guards, makeG, cd_pos, cd_neg, decide_true, cond_true, Option.bind_some, List.take_zero, List.nil_append]
theorem slHasPrefix_one (s : List UInt8) (c : UInt8) : stringslite_HasPrefix.f (mkS s) (mkS [c]) = some (decide (s.head? = some c), ()) := by
  have hsz : (mkS s).size = s.length := by rw [size_B, B_mk]
  rw [stringslite_HasPrefix.f_eq, sz1, hsz]
  cases s with
  | nil => simp
  | cons b l =>
    have e : (mkS (b :: l)).extract 0 1 = mkS [b] := B_inj (by rw [B_ext0]; rfl)
    simp (disch := omega) only [cd_pos, cd_neg, Option.bind_some, beq_S, List.length_cons, Int.toNat_natCast, e, List.head?_cons]
    have hd : (mkS [b] = mkS [c]) ↔ (some b = some c) := ⟨fun h => by have := congrArg B h; simpa [B_mk] using this, fun h => by cases h; rfl⟩
    have hd2 : decide (mkS [b] = mkS [c]) = decide (some b = some c) := decide_eq_decide.2 hd
    rw [hd2]
    simp
end Go.GV.YtkkfgajlnpcpcaaGreatDoor
