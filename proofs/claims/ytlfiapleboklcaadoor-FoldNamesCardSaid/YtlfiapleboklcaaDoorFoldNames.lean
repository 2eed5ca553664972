/-
FoldNames: a name, parameters and a value, put together, are told so. (This session's own text.)
-/
import Derived.Test.YtlfiapleboklcaaDoorStr
set_option linter.unusedVariables false
set_option linter.unusedSimpArgs false
namespace Go.GV.YtlfiapleboklcaaDoor
open Go.Proofs
set_option maxRecDepth 1000000 in
theorem first_true : voklaw4_first.f = some (true, ()) := rn_closed (E := E) (f := 10) rfl (D := c10) (c := b10) (by kernel_rfl) (by kernel_rfl) _ 60 (by kernel_rfl)
theorem name_none {s : List UInt8} (h : 58 ∉ s) : fold_Name.f (mkS s) = some (mkS [], mkS [], mkS [], false, ()) := by
  rw [fold_Name.f_eq, show (⟨#[58]⟩ : ByteArray) = mkS [58] from rfl, cut_none (by simpa [B_mk] using h)]
  rfl
theorem name_some1 {a v : List UInt8} (h : 58 ∉ a) (h2 : 59 ∉ a) (hs : a.length + v.length < 4611686018427387904) : fold_Name.f (mkS (a ++ 58 :: v)) = some (mkS a, mkS [], mkS v, true, ()) := by
  rw [fold_Name.f_eq, show (⟨#[58]⟩ : ByteArray) = mkS [58] from rfl, cut_some (by omega) h]
  simp only [Option.bind_some, Bool.not_true, cond_false]
  rw [show (⟨#[59]⟩ : ByteArray) = mkS [59] from rfl, cut_none (by simpa [B_mk] using h2)]
  rfl
theorem name_some2 {n p v : List UInt8} (h : 58 ∉ n) (h2 : 59 ∉ n) (h3 : 58 ∉ p) (hs : n.length + p.length + v.length < 4611686018427387904) : fold_Name.f (mkS (n ++ 59 :: (p ++ 58 :: v))) = some (mkS n, mkS p, mkS v, true, ()) := by
  have h4 : 58 ∉ n ++ 59 :: p := by simp [h, h3]
  rw [show n ++ 59 :: (p ++ 58 :: v) = (n ++ 59 :: p) ++ 58 :: v by simp, fold_Name.f_eq, show (⟨#[58]⟩ : ByteArray) = mkS [58] from rfl, cut_some (by simp; omega) h4]
  simp only [Option.bind_some, Bool.not_true, cond_false]
  rw [show (⟨#[59]⟩ : ByteArray) = mkS [59] from rfl, cut_some (by omega) h2]
  rfl
theorem getD_mem {l : List UInt8} {i : Nat} (h : i < l.length) : l.getD i 0 ∈ l := by
  rw [List.getD_eq_getElem?_getD, List.getElem?_eq_getElem h]
  exact List.getElem_mem h
theorem drop_getD {l : List UInt8} {i : Nat} (h : i < l.length) : l.drop i = l.getD i 0 :: l.drop (i + 1) := by
  rw [List.getD_eq_getElem?_getD, List.getElem?_eq_getElem h, Option.getD_some]
  exact List.drop_eq_getElem_cons h
/-- The last step: the bytes are such as they must be. -/
theorem names_end {n p v : List UInt8} (hn : n.length ≤ 1000) (hp : p.length ≤ 1000) (hv : v.length ≤ 1000) (h1 : 58 ∉ n) (h2 : 59 ∉ n) (h3 : 58 ∉ p) : voklaw4_FoldNames.l2 (mkS n) (mkS p) (mkS v) (p.length : Nat) = some (true, ()) := by
  have sz : ∀ l : List UInt8, (mkS l).size = l.length := fun l => by rw [size_B, B_mk]
  rw [voklaw4_FoldNames.l2_eq, show (⟨#[58]⟩ : ByteArray) = mkS [58] from rfl, show (⟨#[59]⟩ : ByteArray) = mkS [59] from rfl]
  simp only [mk_app]
  have e1 : n ++ [59] ++ p ++ [58] ++ v = n ++ 59 :: (p ++ 58 :: v) := by simp
  have e2 : n ++ [58] ++ v = n ++ 58 :: v := by simp
  have h4 : 58 ∉ n ++ p := by simp [h1, h3]
  rw [e1, e2, name_some2 h1 h2 h3 (by omega), name_some1 h1 h2 (by omega), name_none h4, first_true]
  simp (disch := first | omega | (simp; omega)) only [sz, cd_pos, cd_neg, Option.bind_some, cond_true, beq_S]
  simp [show (⟨#[]⟩ : ByteArray) = mkS [] from rfl]
theorem names_l2 {n p v : List UInt8} (hn : n.length ≤ 1000) (hp : p.length ≤ 1000) (hv : v.length ≤ 1000) (h1 : 58 ∉ n) (h2 : 59 ∉ n) : ∀ (k i : Nat), p.length - i = k → i ≤ p.length → 58 ∉ p.take i → voklaw4_FoldNames.l2 (mkS n) (mkS p) (mkS v) (i : Nat) = some (true, ()) := by
  intro k
  induction k with
  | zero =>
    intro i hk hi h3
    have e : i = p.length := by omega
    subst e
    rw [List.take_length] at h3
    exact names_end hn hp hv h1 h2 h3
  | succ k ih =>
    intro i hk hi h3
    have hlt : i < p.length := by omega
    have sz : (mkS p).size = p.length := by rw [size_B, B_mk]
    have hu : (((p.getD i 0).toNat : Int) = 58) ↔ p.getD i 0 = 58 := u8_eq _ 58 (by decide)
    rw [voklaw4_FoldNames.l2_eq, first_true, bt_nat, B_mk]
    simp (disch := omega) only [sz, cd_pos, Option.bind_some, wr]
    by_cases hc : p.getD i 0 = 58
    · rw [cd_pos (hu.2 hc)]
    · rw [cd_neg (fun h => hc (hu.1 h))]
      refine ih (i + 1) (by omega) (by omega) ?_
      rw [List.take_add_one, List.getElem?_eq_getElem hlt]
      simp only [Option.toList_some, List.mem_append, List.mem_singleton, not_or]
      refine ⟨h3, fun h => hc ?_⟩
      rw [List.getD_eq_getElem?_getD, List.getElem?_eq_getElem hlt]
      exact h.symm
theorem names_l1 {n p v : List UInt8} (hn : n.length ≤ 1000) (hp : p.length ≤ 1000) (hv : v.length ≤ 1000) : ∀ (k i : Nat), n.length - i = k → i ≤ n.length → 58 ∉ n.take i → 59 ∉ n.take i → voklaw4_FoldNames.l1 (mkS n) (mkS p) (mkS v) (i : Nat) = some (true, ()) := by
  have sz : (mkS n).size = n.length := by rw [size_B, B_mk]
  intro k
  induction k with
  | zero =>
    intro i hk hi h1 h2
    have e : i = n.length := by omega
    subst e
    rw [List.take_length] at h1 h2
    rw [voklaw4_FoldNames.l1_eq]
    simp (disch := omega) only [sz, cd_neg]
    exact names_l2 hn hp hv h1 h2 _ 0 rfl (Nat.zero_le _) (by simp)
  | succ k ih =>
    intro i hk hi h1 h2
    have hlt : i < n.length := by omega
    have hu : (((n.getD i 0).toNat : Int) = 58) ↔ n.getD i 0 = 58 := u8_eq _ 58 (by decide)
    have hu2 : (((n.getD i 0).toNat : Int) = 59) ↔ n.getD i 0 = 59 := u8_eq _ 59 (by decide)
    rw [voklaw4_FoldNames.l1_eq, first_true, bt_nat, B_mk]
    simp (disch := omega) only [sz, cd_pos, Option.bind_some, wr]
    have hg : n.getD i 0 = n[i] := by rw [List.getD_eq_getElem?_getD, List.getElem?_eq_getElem hlt]; rfl
    by_cases hc : n.getD i 0 = 58
    · rw [cd_pos (hu.2 hc)]
    · rw [cd_neg (fun h => hc (hu.1 h))]
      by_cases hc2 : n.getD i 0 = 59
      · rw [cd_pos (hu2.2 hc2)]
      · rw [cd_neg (fun h => hc2 (hu2.1 h))]
        refine ih (i + 1) (by omega) (by omega) ?_ ?_
        · rw [List.take_add_one, List.getElem?_eq_getElem hlt]
          simp only [Option.toList_some, List.mem_append, List.mem_singleton, not_or]
          exact ⟨h1, fun h => hc (hg.trans h.symm)⟩
        · rw [List.take_add_one, List.getElem?_eq_getElem hlt]
          simp only [Option.toList_some, List.mem_append, List.mem_singleton, not_or]
          exact ⟨h2, fun h => hc2 (hg.trans h.symm)⟩
/-- THE LAW. -/
theorem FoldNames_pure (n p v : ByteArray) : voklaw4_FoldNames.f n p v = some (true, ()) := by
  rw [voklaw4_FoldNames.f_eq, first_true]
  simp only [Option.bind_some, Bool.not_true, cond_false]
  by_cases h1 : (n.size : Int) > 1000
  · rw [cd_pos h1]
  · rw [cd_neg h1]
    by_cases h2 : (p.size : Int) > 1000
    · rw [cd_pos h2]
    · rw [cd_neg h2]
      by_cases h3 : (v.size : Int) > 1000
      · rw [cd_pos h3]
      · rw [cd_neg h3]
        rw [size_B] at h1 h2 h3
        exact names_l1 (n := B n) (p := B p) (v := B v) (by omega) (by omega) (by omega) _ 0 rfl (Nat.zero_le _) (by simp) (by simp)
end Go.GV.YtlfiapleboklcaaDoor
