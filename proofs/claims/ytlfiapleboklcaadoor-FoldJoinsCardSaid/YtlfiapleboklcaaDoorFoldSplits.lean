/-
FoldSplits: any bytes as lines, or the first error; any line's name. (This session's own text.)
-/
import Derived.Test.YtlfiapleboklcaaDoorFoldRef
import Derived.Test.YtlfiapleboklcaaDoorFoldName
set_option linter.unusedVariables false
set_option linter.unusedSimpArgs false
namespace Go.GV.YtlfiapleboklcaaDoor
open Go.Proofs
theorem chr_at {a b : List UInt8} {c : UInt8} : chr (a ++ c :: b) a.length = c.toNat := by simp [chr]
theorem chr_left {a b : List UInt8} {j : Nat} (h : j < a.length) : chr (a ++ b) j = chr a j := by unfold chr; rw [getD_app_left _ _ _ _ h]
theorem chr_ne {a : List UInt8} {c : UInt8} (h : c ∉ a) {j : Nat} (hj : j < a.length) : chr a j ≠ c.toNat := by
  intro e
  refine h ?_
  have : a.getD j 0 = c := UInt8.toNat_inj.1 e
  rw [List.getD_eq_getElem?_getD, List.getElem?_eq_getElem hj] at this
  have e2 : a[j] = c := this
  rw [← e2]
  exact List.getElem_mem hj
theorem rname_none {s : List UInt8} (hs : s.length < 4611686018427387904) (h : 58 ∉ s) : vokref4_Name.f (mkS s) = some (mkS [], mkS [], mkS [], false, ()) := by
  rw [vokref4_Name.f_eq]
  have := loop_to (fun i : Nat => vokref4_Name.l1 (mkS s) i) (k := s.length) (i := 0) (Nat.zero_le _) fun j _ hj => by
    have hb : bt (mkS s) (j : Int) = (chr s j : Int) := rfl
    have hc := chr_ne h hj
    have hc2 : chr s j ≠ 58 := hc
    show vokref4_Name.l1 (mkS s) (j : Nat) = _
    rw [vokref4_Name.l1_eq, hb]
    simp (disch := omega) only [dp, dn, decide_true, decide_false, cond_true, cond_false, Bool.not_true, Bool.not_false, Bool.true_and, Bool.false_and, Bool.and_true, Bool.and_false, Bool.true_or, Bool.false_or, Bool.or_true, Bool.or_false, wr, Option.bind_some, tn_add, tn_add1, tn_sub1, tn_0, tn_1, Int.toNat_natCast, szS, Int.natCast_add, Int.natCast_one]
  refine this.trans ?_
  show vokref4_Name.l1 (mkS s) ((s.length : Nat) : Int) = _
  rw [vokref4_Name.l1_eq]
  simp (disch := omega) only [dp, dn, decide_true, decide_false, cond_true, cond_false, Bool.not_true, Bool.not_false, Bool.true_and, Bool.false_and, Bool.and_true, Bool.and_false, Bool.true_or, Bool.false_or, Bool.or_true, Bool.or_false, wr, Option.bind_some, tn_add, tn_add1, tn_sub1, tn_0, tn_1, Int.toNat_natCast, szS]
  rfl
theorem rname_l2 {a v : List UInt8} (hs : a.length + v.length < 4611686018427387904) : vokref4_Name.l2 (mkS (a ++ 58 :: v)) (a.length : Int) 0 =
    (if 59 ∈ a then fold_Name.f (mkS (a ++ 58 :: v)) else some (mkS a, mkS [], mkS v, true, ())) ∨ 58 ∈ a := by
  by_cases h58 : 58 ∈ a
  · exact .inr h58
  · refine .inl ?_
    have hsz : (a ++ 58 :: v).length = a.length + v.length + 1 := by simp; omega
    have e2 : (mkS (a ++ 58 :: v)).extract (a.length + 1) (a.length + v.length + 1) = mkS v := B_inj (by rw [← hsz, ← szS (a ++ 58 :: v), B_exte, B_mk]; simp [B_mk, List.drop_append])
    rcases first_of (c := 59) (l := a) with h | ⟨n, p, rfl, hn⟩
    · rw [if_neg h]
      have e1 : (mkS (a ++ 58 :: v)).extract 0 a.length = mkS a := B_inj (by rw [B_ext0, B_mk]; simp [B_mk])
      have := loop_to (fun i : Nat => vokref4_Name.l2 (mkS (a ++ 58 :: v)) (a.length : Int) i) (k := a.length) (i := 0) (Nat.zero_le _) fun j _ hj => by
        have hb : bt (mkS (a ++ 58 :: v)) (j : Int) = (chr (a ++ 58 :: v) j : Int) := rfl
        have hc := chr_ne h hj
        have hc2 : chr (a ++ 58 :: v) j ≠ 59 := by rw [chr_left hj]; exact hc
        show vokref4_Name.l2 (mkS (a ++ 58 :: v)) (a.length : Int) (j : Nat) = _
        rw [vokref4_Name.l2_eq, hb]
        simp (disch := omega) only [dp, dn, decide_true, decide_false, cond_true, cond_false, Bool.not_true, Bool.not_false, Bool.true_and, Bool.false_and, Bool.and_true, Bool.and_false, Bool.true_or, Bool.false_or, Bool.or_true, Bool.or_false, wr, Option.bind_some, tn_add, tn_add1, tn_sub1, tn_0, tn_1, Int.toNat_natCast, szS, hsz, Int.natCast_add, Int.natCast_one]
      refine this.trans ?_
      show vokref4_Name.l2 (mkS (a ++ 58 :: v)) (a.length : Int) ((a.length : Nat) : Int) = _
      rw [vokref4_Name.l2_eq]
      simp (disch := omega) only [dp, dn, decide_true, decide_false, cond_true, cond_false, Bool.not_true, Bool.not_false, Bool.true_and, Bool.false_and, Bool.and_true, Bool.and_false, Bool.true_or, Bool.false_or, Bool.or_true, Bool.or_false, wr, Option.bind_some, tn_add, tn_add1, tn_sub1, tn_0, tn_1, Int.toNat_natCast, szS, hsz, e1, e2]
      rfl
    · rw [if_pos (by simp)]
      have h581 : 58 ∉ n := fun h => h58 (by simp [h])
      have h582 : 58 ∉ p := fun h => h58 (by simp [h])
      have hlen : (n ++ 59 :: p).length = n.length + p.length + 1 := by simp; omega
      rw [hlen] at hs hsz e2
      have e1 : (mkS (n ++ 59 :: p ++ 58 :: v)).extract 0 n.length = mkS n := B_inj (by rw [B_ext0, B_mk]; simp [B_mk])
      have e3 : (mkS (n ++ 59 :: p ++ 58 :: v)).extract (n.length + 1) (n.length + p.length + 1) = mkS p := B_inj (by
        rw [B_ext, B_mk, B_mk]
        simp [List.drop_append, List.drop_of_length_le (show n.length ≤ n.length + 1 by omega)])
      have hnm := name_some2 h581 hn h582 (v := v) (by omega)
      rw [show n ++ 59 :: (p ++ 58 :: v) = n ++ 59 :: p ++ 58 :: v by simp] at hnm
      rw [hnm]
      have := loop_to (fun i : Nat => vokref4_Name.l2 (mkS (n ++ 59 :: p ++ 58 :: v)) ((n ++ 59 :: p).length : Int) i) (k := n.length) (i := 0) (Nat.zero_le _) fun j _ hj => by
        have hb : bt (mkS (n ++ 59 :: p ++ 58 :: v)) (j : Int) = (chr (n ++ 59 :: p ++ 58 :: v) j : Int) := rfl
        have hc := chr_ne hn hj
        have hc2 : chr (n ++ 59 :: p ++ 58 :: v) j ≠ 59 := by rw [chr_left (by rw [hlen]; omega), chr_left hj]; exact hc
        show vokref4_Name.l2 (mkS (n ++ 59 :: p ++ 58 :: v)) ((n ++ 59 :: p).length : Int) (j : Nat) = _
        rw [vokref4_Name.l2_eq, hb]
        simp (disch := omega) only [dp, dn, decide_true, decide_false, cond_true, cond_false, Bool.not_true, Bool.not_false, Bool.true_and, Bool.false_and, Bool.and_true, Bool.and_false, Bool.true_or, Bool.false_or, Bool.or_true, Bool.or_false, wr, Option.bind_some, tn_add, tn_add1, tn_sub1, tn_0, tn_1, Int.toNat_natCast, szS, hsz, hlen, Int.natCast_add, Int.natCast_one]
      refine this.trans ?_
      show vokref4_Name.l2 (mkS (n ++ 59 :: p ++ 58 :: v)) ((n ++ 59 :: p).length : Int) ((n.length : Nat) : Int) = _
      have hb : bt (mkS (n ++ 59 :: p ++ 58 :: v)) (n.length : Int) = 59 := by
        show (chr (n ++ 59 :: p ++ 58 :: v) n.length : Int) = 59
        rw [chr_left (by rw [hlen]; omega), chr_at]
        rfl
      rw [vokref4_Name.l2_eq, hb]
      simp (disch := omega) only [dp, dn, decide_true, decide_false, cond_true, cond_false, Bool.not_true, Bool.not_false, Bool.true_and, Bool.false_and, Bool.and_true, Bool.and_false, Bool.true_or, Bool.false_or, Bool.or_true, Bool.or_false, wr, Option.bind_some, tn_add, tn_add1, tn_sub1, tn_0, tn_1, Int.toNat_natCast, szS, hsz, hlen, e1, e2, e3]
theorem ref_name (s : List UInt8) (hs : s.length < 4611686018427387904) : vokref4_Name.f (mkS s) = fold_Name.f (mkS s) := by
  rcases first_of (c := 58) (l := s) with h | ⟨a, v, rfl, ha⟩
  · rw [rname_none hs h, name_none h]
  · have hsz : (a ++ 58 :: v).length = a.length + v.length + 1 := by simp; omega
    rw [hsz] at hs
    rw [vokref4_Name.f_eq]
    have := loop_to (fun i : Nat => vokref4_Name.l1 (mkS (a ++ 58 :: v)) i) (k := a.length) (i := 0) (Nat.zero_le _) fun j _ hj => by
      have hb : bt (mkS (a ++ 58 :: v)) (j : Int) = (chr (a ++ 58 :: v) j : Int) := rfl
      have hc := chr_ne ha hj
      have hc2 : chr (a ++ 58 :: v) j ≠ 58 := by rw [chr_left hj]; exact hc
      show vokref4_Name.l1 (mkS (a ++ 58 :: v)) (j : Nat) = _
      rw [vokref4_Name.l1_eq, hb]
      simp (disch := omega) only [dp, dn, decide_true, decide_false, cond_true, cond_false, Bool.not_true, Bool.not_false, Bool.true_and, Bool.false_and, Bool.and_true, Bool.and_false, Bool.true_or, Bool.false_or, Bool.or_true, Bool.or_false, wr, Option.bind_some, tn_add, tn_add1, tn_sub1, tn_0, tn_1, Int.toNat_natCast, szS, hsz, Int.natCast_add, Int.natCast_one]
    refine this.trans ?_
    show vokref4_Name.l1 (mkS (a ++ 58 :: v)) ((a.length : Nat) : Int) = _
    have hb : bt (mkS (a ++ 58 :: v)) (a.length : Int) = 58 := by
      show (chr (a ++ 58 :: v) a.length : Int) = 58
      rw [chr_at]
      rfl
    rw [vokref4_Name.l1_eq, hb]
    simp (disch := omega) only [dp, dn, decide_true, decide_false, cond_true, cond_false, Bool.not_true, Bool.not_false, Bool.true_and, Bool.false_and, Bool.and_true, Bool.and_false, Bool.true_or, Bool.false_or, Bool.or_true, Bool.or_false, wr, Option.bind_some, tn_add, tn_add1, tn_sub1, tn_0, tn_1, Int.toNat_natCast, szS, hsz]
    rcases rname_l2 (a := a) (v := v) (by omega) with h | h
    · rw [h]
      split
      · rfl
      · rename_i h59
        rw [name_some1 ha h59 (by omega)]
    · exact absurd h ha
/-- Each comes to something. -/
theorem fsplit_some (l : List UInt8) : ∃ r : List ByteArray × Int × Int × Unit, fold_Split.f (I l) = some r ∧ r.1.length ≤ 5000 := by
  rcases fsplit_cases l with h | ⟨h, k, h1, h2, h3⟩ | ⟨h, h1⟩
  · exact ⟨_, fsplit_long h, by simp⟩
  · exact ⟨_, fsplit_bad h h1 h2 h3, by simp⟩
  · refine ⟨_, fsplit_good h h1, ?_⟩
    have hp := pieces_tot l
    have : ∀ (raw acc : List (List UInt8)), (lines acc raw).length ≤ acc.length + raw.length := by
      intro raw
      induction raw with
      | nil => intro acc; simp [lines]
      | cons s r ih =>
        intro acc
        have h1 := ih (glue acc (trimCR s))
        obtain ⟨_, h2, _⟩ := glue_tot acc (trimCR s)
        simp only [List.length_cons]
        show (lines (glue acc (trimCR s)) r).length ≤ _
        omega
    have := this (pieces l) []
    simp at this ⊢
    omega
theorem name_some (s : List UInt8) (hs : s.length < 4611686018427387904) : ∃ r, fold_Name.f (mkS s) = some r := by
  rcases first_of (c := 58) (l := s) with h | ⟨a, v, rfl, ha⟩
  · exact ⟨_, name_none h⟩
  · simp at hs
    rcases first_of (c := 59) (l := a) with h | ⟨n, p, rfl, hn⟩
    · exact ⟨_, name_some1 ha h (by omega)⟩
    · have h581 : 58 ∉ n := fun h => ha (by simp [h])
      have h582 : 58 ∉ p := fun h => ha (by simp [h])
      simp at hs
      have hnm := name_some2 h581 hn h582 (v := v) (by omega)
      rw [show n ++ 59 :: (p ++ 58 :: v) = n ++ 59 :: p ++ 58 :: v by simp] at hnm
      exact ⟨_, hnm⟩
theorem FoldSplits_pure (b : List Int) (s : ByteArray) (ok : Tys.Ok (.cons (.row 5 (.int .u8)) (.cons .str .nil)) (b, s, ())) : voklaw4_FoldSplits.f b s = some (true, ()) := by
  obtain ⟨⟨_, ob⟩, _⟩ := ok
  have eb := okI ob
  generalize (b.map fun n => UInt8.ofNat n.toNat) = l at eb
  subst eb
  have hb1 : ∀ x : Bool, (x = false → l.length ≤ 6000 ∧ (B s).length ≤ 6000) → voklaw4_FoldSplits.l1 (I l) s x = some (true, ()) := by
    intro x h
    rw [voklaw4_FoldSplits.l1_eq, first_true]
    cases x with
    | true => rfl
    | false =>
      obtain ⟨h1, h2⟩ := h rfl
      have hlim : limit = 17179869184 := rfl
      obtain ⟨r, hr, hrl⟩ := fsplit_some l
      obtain ⟨q, hq⟩ := name_some (B s) (by omega)
      have hrn := ref_name (B s) (by omega)
      rw [mk_B] at hq hrn
      rw [vokref_CopyBytes.f_eq]
      simp (disch := omega) only [dp, dn, decide_true, decide_false, cond_true, cond_false, Bool.not_true, Bool.not_false, Bool.true_and, Bool.false_and, Bool.and_true, Bool.and_false, Bool.true_or, Bool.false_or, Bool.or_true, Bool.or_false, wr, Option.bind_some, tn_add, tn_add1, tn_sub1, tn_0, tn_1, Int.toNat_natCast, I_len, List.length_nil, List.nil_append, ref_split, hr, hrn, hq, vokref_Bytes.f_eq, strOf_I, beq_S]
      rw [texts_eq _ _ (by omega) (by omega)]
      simp
  rw [voklaw4_FoldSplits.f_eq, first_true, I_len]
  simp (disch := omega) only [dp, dn, decide_true, decide_false, cond_true, cond_false, Bool.not_true, Bool.not_false, Bool.true_and, Bool.false_and, Bool.and_true, Bool.and_false, Bool.true_or, Bool.false_or, Bool.or_true, Bool.or_false, wr, Option.bind_some, tn_add, tn_add1, tn_sub1, tn_0, tn_1, Int.toNat_natCast]
  by_cases h1 : l.length > 6000
  · simp (disch := omega) only [dp, dn, decide_true, decide_false, cond_true, cond_false, Bool.not_true, Bool.not_false, Bool.true_and, Bool.false_and, Bool.and_true, Bool.and_false, Bool.true_or, Bool.false_or, Bool.or_true, Bool.or_false, wr, Option.bind_some, tn_add, tn_add1, tn_sub1, tn_0, tn_1, Int.toNat_natCast]
    exact hb1 true fun h => by cases h
  · simp (disch := omega) only [dp, dn, decide_true, decide_false, cond_true, cond_false, Bool.not_true, Bool.not_false, Bool.true_and, Bool.false_and, Bool.and_true, Bool.and_false, Bool.true_or, Bool.false_or, Bool.or_true, Bool.or_false, wr, Option.bind_some, tn_add, tn_add1, tn_sub1, tn_0, tn_1, Int.toNat_natCast]
    refine hb1 _ fun h => ?_
    have := of_decide_eq_false h
    rw [size_B] at this
    omega
end Go.GV.YtlfiapleboklcaaDoor
