/-
rule.Parse and the document's Parse. (This session's own text.)
-/
import Derived.Test.YtkkfgajlnpcpcaaGreatDoorRlPart
set_option linter.unusedVariables false
set_option linter.unusedSimpArgs false
namespace Go.GV.YtkkfgajlnpcpcaaGreatDoor
open Go.Proofs
set_option maxRecDepth 1000000 in
theorem first_true : voklaw5_first.f = some (true, ()) := rn_closed (E := E) (f := 12) rfl (D := c12) (c := b12) (by kernel_rfl) (by kernel_rfl) _ 400 (by kernel_rfl)
def zR : Rl := (0, 0, 0, 0, 0, false, [], [], [], [], [], [], [], [], [], ())
noncomputable def PA (p : List (List UInt8)) (i : Nat) (r : Rl) (ms : List (List UInt8)) : Option (Rl × Int × Int × Unit) := rule_Parse.l1a (p.map mkS) p.length i 0 0 0 0 0 false r.1 r.2.1 r.2.2.1 r.2.2.2.1 r.2.2.2.2.1 r.2.2.2.2.2.1 r.2.2.2.2.2.2.1 r.2.2.2.2.2.2.2.1 r.2.2.2.2.2.2.2.2.1 r.2.2.2.2.2.2.2.2.2.1 r.2.2.2.2.2.2.2.2.2.2.1 r.2.2.2.2.2.2.2.2.2.2.2.1 r.2.2.2.2.2.2.2.2.2.2.2.2.1 r.2.2.2.2.2.2.2.2.2.2.2.2.2.1 r.2.2.2.2.2.2.2.2.2.2.2.2.2.2.1 (ms.map mkS)
noncomputable def VA (p : List (List UInt8)) (i : Nat) (r : Rl) (ms : List (List UInt8)) : Option (Rl × Int × Int × Unit) := vokref4_Parse.l1a (p.map mkS) i 0 0 0 0 0 false r.1 r.2.1 r.2.2.1 r.2.2.2.1 r.2.2.2.2.1 r.2.2.2.2.2.1 r.2.2.2.2.2.2.1 r.2.2.2.2.2.2.2.1 r.2.2.2.2.2.2.2.2.1 r.2.2.2.2.2.2.2.2.2.1 r.2.2.2.2.2.2.2.2.2.2.1 r.2.2.2.2.2.2.2.2.2.2.2.1 r.2.2.2.2.2.2.2.2.2.2.2.2.1 r.2.2.2.2.2.2.2.2.2.2.2.2.2.1 r.2.2.2.2.2.2.2.2.2.2.2.2.2.2.1 (ms.map mkS)
def Both (a b : Option (Rl × Int × Int × Unit)) : Prop := ∃ (R : Rl) (at_ e : Int), a = some (R, at_, e, ()) ∧ b = some (R, at_, e, ()) ∧ sh60 R
theorem sh60_z : sh60 zR := by unfold sh60 zR; simp
theorem both_z (n e : Int) : Both (some (zR, n, e, ())) (some (zR, n, e, ())) := ⟨zR, n, e, rfl, rfl, sh60_z⟩
theorem short_of {r : Rl} (h : sh60 r) : short r.2.2.2.2.2.2.1 r.2.2.2.2.2.2.2.1 r.2.2.2.2.2.2.2.2.1 r.2.2.2.2.2.2.2.2.2.1 r.2.2.2.2.2.2.2.2.2.2.1 r.2.2.2.2.2.2.2.2.2.2.2.1 r.2.2.2.2.2.2.2.2.2.2.2.2.1 r.2.2.2.2.2.2.2.2.2.2.2.2.2.1 r.2.2.2.2.2.2.2.2.2.2.2.2.2.2.1 := by
  unfold sh60 at h
  unfold short
  omega
theorem part_nil (r : Rl) (v : List UInt8) : ∃ r1 : Rl, rule_part.f (r.1, r.2.1, r.2.2.1, r.2.2.2.1, r.2.2.2.2.1, r.2.2.2.2.2.1, r.2.2.2.2.2.2.1, r.2.2.2.2.2.2.2.1, r.2.2.2.2.2.2.2.2.1, r.2.2.2.2.2.2.2.2.2.1, r.2.2.2.2.2.2.2.2.2.2.1, r.2.2.2.2.2.2.2.2.2.2.2.1, r.2.2.2.2.2.2.2.2.2.2.2.2.1, r.2.2.2.2.2.2.2.2.2.2.2.2.2.1, r.2.2.2.2.2.2.2.2.2.2.2.2.2.2.1, ()) (mkS []) (mkS v) = some (false, r1, ()) := by
  have e0 : (⟨#[70, 82, 69, 81]⟩ : ByteArray) = mkS [70, 82, 69, 81] := rfl
  have e1 : (⟨#[73, 78, 84, 69, 82, 86, 65, 76]⟩ : ByteArray) = mkS [73, 78, 84, 69, 82, 86, 65, 76] := rfl
  have e2 : (⟨#[67, 79, 85, 78, 84]⟩ : ByteArray) = mkS [67, 79, 85, 78, 84] := rfl
  have e3 : (⟨#[85, 78, 84, 73, 76]⟩ : ByteArray) = mkS [85, 78, 84, 73, 76] := rfl
  have e4 : (⟨#[66, 89, 68, 65, 89]⟩ : ByteArray) = mkS [66, 89, 68, 65, 89] := rfl
  have e5 : (⟨#[87, 75, 83, 84]⟩ : ByteArray) = mkS [87, 75, 83, 84] := rfl
  have e6 : (⟨#[66, 89, 77, 79, 78, 84, 72]⟩ : ByteArray) = mkS [66, 89, 77, 79, 78, 84, 72] := rfl
  have e7 : (⟨#[66, 89, 87, 69, 69, 75, 78, 79]⟩ : ByteArray) = mkS [66, 89, 87, 69, 69, 75, 78, 79] := rfl
  have e8 : (⟨#[66, 89, 89, 69, 65, 82, 68, 65, 89]⟩ : ByteArray) = mkS [66, 89, 89, 69, 65, 82, 68, 65, 89] := rfl
  have e9 : (⟨#[66, 89, 77, 79, 78, 84, 72, 68, 65, 89]⟩ : ByteArray) = mkS [66, 89, 77, 79, 78, 84, 72, 68, 65, 89] := rfl
  have e10 : (⟨#[66, 89, 72, 79, 85, 82]⟩ : ByteArray) = mkS [66, 89, 72, 79, 85, 82] := rfl
  have e11 : (⟨#[66, 89, 77, 73, 78, 85, 84, 69]⟩ : ByteArray) = mkS [66, 89, 77, 73, 78, 85, 84, 69] := rfl
  have e12 : (⟨#[66, 89, 83, 69, 67, 79, 78, 68]⟩ : ByteArray) = mkS [66, 89, 83, 69, 67, 79, 78, 68] := rfl
  have e13 : (⟨#[66, 89, 83, 69, 84, 80, 79, 83]⟩ : ByteArray) = mkS [66, 89, 83, 69, 84, 80, 79, 83] := rfl
  rw [rule_part.f_eq]
  simp (disch := decide) only [beq_S, e0, e1, e2, e3, e4, e5, e6, e7, e8, e9, e10, e11, e12, e13, dm, dn, cond_false]
  rw [rule_part.l1h_eq]
  exact ⟨_, rfl⟩
theorem parse_loop (p : List (List UInt8)) (hp : p.length ≤ 10000) (hpl : ∀ s ∈ p, s.length ≤ 5000) : ∀ (k i : Nat) (r : Rl) (ms : List (List UInt8)), p.length - i = k → i ≤ p.length → ms.length ≤ i → sh60 r → [] ∉ ms → (FREQ ∈ ms ↔ r.1 ≠ 0) → Both (PA p i r ms) (VA p i r ms) := by
  have hlim : limit = 17179869184 := rfl
  have hml : (p.map mkS).length = p.length := List.length_map ..
  intro k
  induction k with
  | zero =>
    intro i r ms hk hil hms hr hne hfr
    have e : i = p.length := by omega
    subst e
    have hC : slices_Contains_string_string.f (ms.map mkS) ⟨#[70, 82, 69, 81]⟩ = some (decide (FREQ ∈ ms), ()) := contains_spec ms FREQ (by omega)
    have hM := may_same r (short_of hr)
    obtain ⟨b, hb⟩ := may_some r (short_of hr)
    have hMp : rule_May.f (r.1, r.2.1, r.2.2.1, r.2.2.2.1, r.2.2.2.2.1, r.2.2.2.2.2.1, r.2.2.2.2.2.2.1, r.2.2.2.2.2.2.2.1, r.2.2.2.2.2.2.2.2.1, r.2.2.2.2.2.2.2.2.2.1, r.2.2.2.2.2.2.2.2.2.2.1, r.2.2.2.2.2.2.2.2.2.2.2.1, r.2.2.2.2.2.2.2.2.2.2.2.2.1, r.2.2.2.2.2.2.2.2.2.2.2.2.2.1, r.2.2.2.2.2.2.2.2.2.2.2.2.2.2.1, ()) = some (b, ()) := hb
    have hMv : vokref4_May.f (r.1, r.2.1, r.2.2.1, r.2.2.2.1, r.2.2.2.2.1, r.2.2.2.2.2.1, r.2.2.2.2.2.2.1, r.2.2.2.2.2.2.2.1, r.2.2.2.2.2.2.2.2.1, r.2.2.2.2.2.2.2.2.2.1, r.2.2.2.2.2.2.2.2.2.2.1, r.2.2.2.2.2.2.2.2.2.2.2.1, r.2.2.2.2.2.2.2.2.2.2.2.2.1, r.2.2.2.2.2.2.2.2.2.2.2.2.2.1, r.2.2.2.2.2.2.2.2.2.2.2.2.2.2.1, ()) = some (b, ()) := hM ▸ hb
    unfold PA VA
    rw [rule_Parse.l1a_eq, vokref4_Parse.l1a_eq]
    simp (disch := omega) only [dp, dn, decide_true, decide_false, cond_true, cond_false, Bool.not_true, Bool.not_false, Bool.true_and, Bool.false_and, Bool.and_true, Bool.and_false, Bool.true_or, Bool.false_or, Bool.or_true, Bool.or_false, wr, Option.bind_some, tn_add, tn_add1, tn_sub1, tn_0, tn_1, Int.toNat_natCast, hml, hC]
    by_cases c : FREQ ∈ ms
    · have c0 : ¬ r.1 = 0 := hfr.1 c
      rw [dp c, dn c0]
      simp (disch := omega) only [dp, dn, decide_true, decide_false, cond_true, cond_false, Bool.not_true, Bool.not_false, Bool.true_and, Bool.false_and, Bool.and_true, Bool.and_false, Bool.true_or, Bool.false_or, Bool.or_true, Bool.or_false, wr, Option.bind_some, tn_add, tn_add1, tn_sub1, tn_0, tn_1, Int.toNat_natCast, hMp, hMv]
      cases b with
      | false => exact both_z 0 1
      | true => exact ⟨r, 0, 0, rfl, rfl, hr⟩
    · have c0 : r.1 = 0 := Decidable.byContradiction fun q => c (hfr.2 q)
      rw [dn c, dp c0]
      exact both_z 0 7
  | succ k ih =>
    intro i r ms hk hil hms hr hne hfr
    have hlt : i < p.length := by omega
    have hg := gm p i hlt
    have hsl := hpl _ (getD_mem' [] hlt)
    have pt : ∀ x9 : ByteArray, rule_Parse.l2a i x9 (p.map mkS) p.length i true 0 0 0 0 0 false r.1 r.2.1 r.2.2.1 r.2.2.2.1 r.2.2.2.2.1 r.2.2.2.2.2.1 r.2.2.2.2.2.2.1 r.2.2.2.2.2.2.2.1 r.2.2.2.2.2.2.2.2.1 r.2.2.2.2.2.2.2.2.2.1 r.2.2.2.2.2.2.2.2.2.2.1 r.2.2.2.2.2.2.2.2.2.2.2.1 r.2.2.2.2.2.2.2.2.2.2.2.2.1 r.2.2.2.2.2.2.2.2.2.2.2.2.2.1 r.2.2.2.2.2.2.2.2.2.2.2.2.2.2.1 (ms.map mkS) = some (zR, (i : Int), 4, ()) := fun x9 => by rw [rule_Parse.l2a_eq, cond_true]; rfl
    have vt : ∀ x9 : List ByteArray, vokref4_Parse.l2a (p.map mkS) i x9 true 0 0 0 0 0 false r.1 r.2.1 r.2.2.1 r.2.2.2.1 r.2.2.2.2.1 r.2.2.2.2.2.1 r.2.2.2.2.2.2.1 r.2.2.2.2.2.2.2.1 r.2.2.2.2.2.2.2.2.1 r.2.2.2.2.2.2.2.2.2.1 r.2.2.2.2.2.2.2.2.2.2.1 r.2.2.2.2.2.2.2.2.2.2.2.1 r.2.2.2.2.2.2.2.2.2.2.2.2.1 r.2.2.2.2.2.2.2.2.2.2.2.2.2.1 r.2.2.2.2.2.2.2.2.2.2.2.2.2.2.1 (ms.map mkS) = some (zR, (i : Int), 4, ()) := fun x9 => by rw [vokref4_Parse.l2a_eq, cond_true]; rfl
    generalize hs : p.getD i [] = s at hg hsl
    have hV : vokref_Split.f (mkS s) 61 = some ((segs 61 s).map mkS, ()) := vsplit_spec 61 s (by omega)
    have hsm : ((segs 61 s).map mkS).length = (segs 61 s).length := List.length_map ..
    unfold PA VA
    rw [rule_Parse.l1a_eq, vokref4_Parse.l1a_eq]
    simp (disch := omega) only [dp, dn, decide_true, decide_false, cond_true, cond_false, Bool.not_true, Bool.not_false, Bool.true_and, Bool.false_and, Bool.and_true, Bool.and_false, Bool.true_or, Bool.false_or, Bool.or_true, Bool.or_false, wr, Option.bind_some, tn_add, tn_add1, tn_sub1, tn_0, tn_1, Int.toNat_natCast, hml, hg, hV]
    rcases first_of (c := (61 : UInt8)) (l := s) with hno | ⟨a, b, hab, ha⟩
    · have hc : strings_Cut.f (mkS s) ⟨#[61]⟩ = some (mkS s, mkS [], false, ()) := cut_none (s := mkS s) (c := 61) hno
      have hl1 : ((segs 61 s).map mkS).length = 1 := by rw [hsm, segs_none hno]; rfl
      rw [hc, hl1]
      simp (disch := omega) only [dp, dn, decide_true, decide_false, cond_true, cond_false, Bool.not_true, Bool.not_false, Bool.true_and, Bool.false_and, Bool.and_true, Bool.and_false, Bool.true_or, Bool.false_or, Bool.or_true, Bool.or_false, wr, Option.bind_some, tn_add, tn_add1, tn_sub1, tn_0, tn_1, Int.toNat_natCast, pt, vt]
      exact both_z i 4
    · have hab2 : a.length + b.length ≤ 5000 := by rw [hab] at hsl; simp at hsl; omega
      have hc : strings_Cut.f (mkS s) ⟨#[61]⟩ = some (mkS a, mkS b, true, ()) := by rw [hab]; exact cut_some (c := 61) (by omega) ha
      have hsg : segs 61 s = a :: segs 61 b := by rw [hab]; exact segs_some ha
      have hl2 : 2 ≤ ((segs 61 s).map mkS).length := by
        rw [hsm, hsg]
        have := List.length_pos_iff.2 (segs_ne 61 b)
        simp
        omega
      have h0 : ((segs 61 s).map mkS).getD 0 ByteArray.empty = mkS a := by rw [hsg]; rfl
      generalize (segs 61 s).map mkS = sg at hl2 h0
      have hK := contains_spec ms a (by omega)
      have hW := word_spec ms a (by omega)
      have hpz := posF_ge ms a 0 (by omega)
      rw [hc]
      simp (disch := omega) only [dp, dn, decide_true, decide_false, cond_true, cond_false, Bool.not_true, Bool.not_false, Bool.true_and, Bool.false_and, Bool.and_true, Bool.and_false, Bool.true_or, Bool.false_or, Bool.or_true, Bool.or_false, wr, Option.bind_some, tn_add, tn_add1, tn_sub1, tn_0, tn_1, Int.toNat_natCast, h0, hK, hW]
      by_cases c : a ∈ ms
      · have ha0 : a ≠ [] := fun q => hne (q ▸ c)
        rw [dp c, if_neg ha0, dp (show posF 0 ms a ≥ 0 from hpz.1.2 c)]
        simp (disch := omega) only [dp, dn, decide_true, decide_false, cond_true, cond_false, Bool.not_true, Bool.not_false, Bool.true_and, Bool.false_and, Bool.and_true, Bool.and_false, Bool.true_or, Bool.false_or, Bool.or_true, Bool.or_false, wr, Option.bind_some, tn_add, tn_add1, tn_sub1, tn_0, tn_1, Int.toNat_natCast, pt, vt]
        exact both_z i 4
      · have hw : ¬ (if a = [] then (-1 : Int) else posF 0 ms a) ≥ 0 := by
          split
          · omega
          · exact fun q => c (hpz.1.1 q)
        rw [dn c, dn hw]
        have hsz : s.length = a.length + 1 + b.length := by rw [hab]; simp; omega
        have hx : (mkS s).extract (a.length + 1) s.length = mkS b := B_inj (by rw [← szS s, B_exte, B_mk, B_mk, hab, List.drop_append]; simp)
        have hvl : ∀ x, vokref4_Parse.l2a (p.map mkS) i sg false 0 0 0 0 0 false r.1 r.2.1 r.2.2.1 r.2.2.2.1 r.2.2.2.2.1 r.2.2.2.2.2.1 r.2.2.2.2.2.2.1 r.2.2.2.2.2.2.2.1 r.2.2.2.2.2.2.2.2.1 r.2.2.2.2.2.2.2.2.2.1 r.2.2.2.2.2.2.2.2.2.2.1 r.2.2.2.2.2.2.2.2.2.2.2.1 r.2.2.2.2.2.2.2.2.2.2.2.2.1 r.2.2.2.2.2.2.2.2.2.2.2.2.2.1 r.2.2.2.2.2.2.2.2.2.2.2.2.2.2.1 (ms.map mkS) = x ↔ ((vokref4_put.f (r.1, r.2.1, r.2.2.1, r.2.2.2.1, r.2.2.2.2.1, r.2.2.2.2.2.1, r.2.2.2.2.2.2.1, r.2.2.2.2.2.2.2.1, r.2.2.2.2.2.2.2.2.1, r.2.2.2.2.2.2.2.2.2.1, r.2.2.2.2.2.2.2.2.2.2.1, r.2.2.2.2.2.2.2.2.2.2.2.1, r.2.2.2.2.2.2.2.2.2.2.2.2.1, r.2.2.2.2.2.2.2.2.2.2.2.2.2.1, r.2.2.2.2.2.2.2.2.2.2.2.2.2.2.1, ()) (mkS a) (mkS b)).bind fun t9 => bif !t9.1 then (some (zR, (i : Int), 4, ())) else VA p (i + 1) t9.2.1 (ms ++ [a])) = x := fun x => by
          rw [vokref4_Parse.l2a_eq]
          simp (disch := omega) only [dp, dn, decide_true, decide_false, cond_true, cond_false, Bool.not_true, Bool.not_false, Bool.true_and, Bool.false_and, Bool.and_true, Bool.and_false, Bool.true_or, Bool.false_or, Bool.or_true, Bool.or_false, wr, Option.bind_some, tn_add, tn_add1, tn_sub1, tn_0, tn_1, Int.toNat_natCast, h0, hml, hg, szS, List.length_singleton, List.length_map, hlim, hx]
          have : ms.map mkS ++ [mkS a] = (ms ++ [a]).map mkS := by simp
          rw [this]
          rfl
        rw [(hvl _).2 rfl]
        simp only [cond_false]
        rcases part_same r.1 r.2.1 r.2.2.1 r.2.2.2.1 r.2.2.2.2.1 r.2.2.2.2.2.1 r.2.2.2.2.2.2.1 r.2.2.2.2.2.2.2.1 r.2.2.2.2.2.2.2.2.1 r.2.2.2.2.2.2.2.2.2.1 r.2.2.2.2.2.2.2.2.2.2.1 r.2.2.2.2.2.2.2.2.2.2.2.1 r.2.2.2.2.2.2.2.2.2.2.2.2.1 r.2.2.2.2.2.2.2.2.2.2.2.2.2.1 r.2.2.2.2.2.2.2.2.2.2.2.2.2.2.1 a b (by omega) with ⟨r', e1, e2, h60, hf1, hf2⟩ | ⟨r1, r2, e1, e2⟩
        · have ha0 : a ≠ [] := fun q => by
            subst q
            obtain ⟨r1, h1⟩ := part_nil r b
            rw [h1] at e1
            cases e1
          rw [e1, e2]
          simp only [Option.bind_some, Bool.not_true, cond_false]
          have next := ih (i + 1) r' (ms ++ [a]) (by omega) (by omega) (by simp; omega) (h60 hr) (by
            intro q
            rcases List.mem_append.1 q with q | q
            · exact hne q
            · rw [List.mem_singleton] at q; exact ha0 q.symm) (by
            rw [List.mem_append, List.mem_singleton]
            by_cases hF : a = FREQ
            · exact ⟨fun _ => hf1 hF, fun _ => .inr hF.symm⟩
            · rw [hf2 hF]
              exact ⟨fun q => hfr.1 (q.resolve_right fun q => hF q.symm), fun q => .inl (hfr.2 q)⟩)
          rw [rule_Parse.l2a_eq]
          simp (disch := omega) only [dp, dn, decide_true, decide_false, cond_true, cond_false, Bool.not_true, Bool.not_false, Bool.true_and, Bool.false_and, Bool.and_true, Bool.and_false, Bool.true_or, Bool.false_or, Bool.or_true, Bool.or_false, wr, Option.bind_some, tn_add, tn_add1, tn_sub1, tn_0, tn_1, Int.toNat_natCast, List.length_map, List.length_singleton, hlim]
          have : ms.map mkS ++ [mkS a] = (ms ++ [a]).map mkS := by simp
          rw [this]
          exact next
        · rw [e1, e2]
          simp only [Option.bind_some, Bool.not_false, cond_true]
          rw [rule_Parse.l2a_eq, cond_true]
          exact both_z i 4
theorem parse_same (s : List UInt8) (hs : s.length ≤ 1000000) : Both (rule_Parse.f (mkS s)) (vokref4_Parse.f (mkS s)) := by
  rw [rule_Parse.f_eq, vokref4_Parse.f_eq]
  by_cases c : (s.length : Int) > 4096
  · simp (disch := omega) only [dp, dn, decide_true, decide_false, cond_true, cond_false, Bool.not_true, Bool.not_false, Bool.true_and, Bool.false_and, Bool.and_true, Bool.and_false, Bool.true_or, Bool.false_or, Bool.or_true, Bool.or_false, wr, Option.bind_some, tn_add, tn_add1, tn_sub1, tn_0, tn_1, Int.toNat_natCast, szS]
    exact both_z 0 3
  · have hsl := segs_len 59 s
    have hS : strings_Split.f (mkS s) ⟨#[59]⟩ = some ((segs 59 s).map mkS, ()) := split_one (c := 59) s (by omega)
    have hV : vokref_Split.f (mkS s) 59 = some ((segs 59 s).map mkS, ()) := vsplit_spec 59 s (by omega)
    have hml : ((segs 59 s).map mkS).length = (segs 59 s).length := List.length_map ..
    have hR : ∀ (x : List ByteArray) (n : Int), rule_Parse.l1 x n 0 0 0 0 0 0 false 0 1 0 0 0 false [] = rule_Parse.l1a x n 0 0 0 0 0 0 false 0 1 0 0 0 false [] [] [] [] [] [] [] [] [] [] := fun x n => by
      rw [rule_Parse.l1_eq, rule_Parse.l1a_eq]
      simp only [rule_Parse.l2_eq, rule_Parse.l2a_eq, cond_true]
    have hL : ∀ (x : List ByteArray) (i : Int) (y : List ByteArray) (b : Bool), vokref4_Parse.l2 x i y b 0 0 0 0 0 false 0 1 0 0 0 false [] = vokref4_Parse.l2a x i y b 0 0 0 0 0 false 0 1 0 0 0 false [] [] [] [] [] [] [] [] [] [] := fun x i y b => by
      rw [vokref4_Parse.l2_eq, vokref4_Parse.l2a_eq]
    have hQ : ∀ (x : List ByteArray), vokref4_Parse.l1 x 0 0 0 0 0 0 false 0 1 0 0 0 false [] = vokref4_Parse.l1a x 0 0 0 0 0 0 false 0 1 0 0 0 false [] [] [] [] [] [] [] [] [] [] := fun x => by
      rw [vokref4_Parse.l1_eq, vokref4_Parse.l1a_eq]
      simp only [hL]
    have := parse_loop (segs 59 s) (by omega) (fun t ht => by have := hsl.2 t ht; omega) _ 0 (0, 1, 0, 0, 0, false, [], [], [], [], [], [], [], [], [], ()) [] rfl (Nat.zero_le _) (Nat.le_refl _) (by unfold sh60; simp) (by simp) (by simp)
    simp (disch := omega) only [dp, dn, decide_true, decide_false, cond_true, cond_false, Bool.not_true, Bool.not_false, Bool.true_and, Bool.false_and, Bool.and_true, Bool.and_false, Bool.true_or, Bool.false_or, Bool.or_true, Bool.or_false, wr, Option.bind_some, tn_add, tn_add1, tn_sub1, tn_0, tn_1, Int.toNat_natCast, szS, hS, hV, hR, hQ, hml]
    exact this
theorem days_same (a : List Dy) (ha : a.length ≤ 1000000) : vokref_Days.f a a = some (true, ()) := by
  have key : ∀ (k i : Nat), a.length - i = k → i ≤ a.length → vokref_Days.l1 a a i = some (true, ()) := by
    intro k
    induction k with
    | zero =>
      intro i hk hi
      rw [vokref_Days.l1_eq]
      simp (disch := omega) only [dp, dn, decide_true, decide_false, cond_true, cond_false, Bool.not_true, Bool.not_false, Bool.true_and, Bool.false_and, Bool.and_true, Bool.and_false, Bool.true_or, Bool.false_or, Bool.or_true, Bool.or_false, wr, Option.bind_some, tn_add, tn_add1, tn_sub1, tn_0, tn_1, Int.toNat_natCast]
    | succ k ih =>
      intro i hk hi
      rw [vokref_Days.l1_eq]
      simp (disch := omega) only [dp, dn, decide_true, decide_false, cond_true, cond_false, Bool.not_true, Bool.not_false, Bool.true_and, Bool.false_and, Bool.and_true, Bool.and_false, Bool.true_or, Bool.false_or, Bool.or_true, Bool.or_false, wr, Option.bind_some, tn_add, tn_add1, tn_sub1, tn_0, tn_1, Int.toNat_natCast, vokref_Days.l2_eq]
      exact ih (i + 1) (by omega) (by omega)
  rw [vokref_Days.f_eq]
  have := key _ 0 rfl (Nat.zero_le _)
  rw [Int.natCast_zero] at this
  simp (disch := omega) only [dp, dn, decide_true, decide_false, cond_true, cond_false, Bool.not_true, Bool.not_false, Bool.true_and, Bool.false_and, Bool.and_true, Bool.and_false, Bool.true_or, Bool.false_or, Bool.or_true, Bool.or_false, wr, Option.bind_some, tn_add, tn_add1, tn_sub1, tn_0, tn_1, Int.toNat_natCast, this]
theorem rule_self (r : Rl) (h : sh60 r) : vokref_Rule.f r r = some (true, ()) := by
  unfold sh60 at h
  obtain ⟨h1, h2, h3, h4, h5, h6, h7, h8, h9⟩ := h
  rw [vokref_Rule.f_eq, ints_same _ (by omega), ints_same _ (by omega), ints_same _ (by omega), ints_same _ (by omega), days_same _ (by omega), ints_same _ (by omega), ints_same _ (by omega), ints_same _ (by omega), ints_same _ (by omega)]
  simp (disch := omega) only [dp, dn, decide_true, decide_false, cond_true, cond_false, Bool.not_true, Bool.not_false, Bool.true_and, Bool.false_and, Bool.and_true, Bool.and_false, Bool.true_or, Bool.false_or, Bool.or_true, Bool.or_false, wr, Option.bind_some, tn_add, tn_add1, tn_sub1, tn_0, tn_1, Int.toNat_natCast, beq_self_eq_true]
theorem RuleParses_pure (s : ByteArray) : voklaw5_RuleParses.f s = some (true, ()) := by
  rw [voklaw5_RuleParses.f_eq]
  by_cases c : (s.size : Int) > 5000
  · simp (disch := omega) only [dp, dn, decide_true, decide_false, cond_true, cond_false, Bool.not_true, Bool.not_false, Bool.true_and, Bool.false_and, Bool.and_true, Bool.and_false, Bool.true_or, Bool.false_or, Bool.or_true, Bool.or_false, wr, Option.bind_some, tn_add, tn_add1, tn_sub1, tn_0, tn_1, Int.toNat_natCast, first_true]
  · have hs : (B s).length ≤ 1000000 := by rw [← size_B]; omega
    obtain ⟨R, at_, e, h1, h2, h3⟩ := parse_same (B s) hs
    rw [mk_B] at h1 h2
    have hR : vokref_Rule.f (R.1, R.2.1, R.2.2.1, R.2.2.2.1, R.2.2.2.2.1, R.2.2.2.2.2.1, R.2.2.2.2.2.2.1, R.2.2.2.2.2.2.2.1, R.2.2.2.2.2.2.2.2.1, R.2.2.2.2.2.2.2.2.2.1, R.2.2.2.2.2.2.2.2.2.2.1, R.2.2.2.2.2.2.2.2.2.2.2.1, R.2.2.2.2.2.2.2.2.2.2.2.2.1, R.2.2.2.2.2.2.2.2.2.2.2.2.2.1, R.2.2.2.2.2.2.2.2.2.2.2.2.2.2.1, ()) (R.1, R.2.1, R.2.2.1, R.2.2.2.1, R.2.2.2.2.1, R.2.2.2.2.2.1, R.2.2.2.2.2.2.1, R.2.2.2.2.2.2.2.1, R.2.2.2.2.2.2.2.2.1, R.2.2.2.2.2.2.2.2.2.1, R.2.2.2.2.2.2.2.2.2.2.1, R.2.2.2.2.2.2.2.2.2.2.2.1, R.2.2.2.2.2.2.2.2.2.2.2.2.1, R.2.2.2.2.2.2.2.2.2.2.2.2.2.1, R.2.2.2.2.2.2.2.2.2.2.2.2.2.2.1, ()) = some (true, ()) := rule_self R h3
    simp (disch := omega) only [dp, dn, decide_true, decide_false, cond_true, cond_false, Bool.not_true, Bool.not_false, Bool.true_and, Bool.false_and, Bool.and_true, Bool.and_false, Bool.true_or, Bool.false_or, Bool.or_true, Bool.or_false, wr, Option.bind_some, tn_add, tn_add1, tn_sub1, tn_0, tn_1, Int.toNat_natCast, first_true, h1, h2, hR]
end Go.GV.YtkkfgajlnpcpcaaGreatDoor
