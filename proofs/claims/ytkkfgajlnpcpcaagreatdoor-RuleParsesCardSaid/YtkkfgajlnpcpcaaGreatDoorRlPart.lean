/-
The parts of a rule's text: the program's part and the document's put. (Printed by rlpart.py. This session's own text.)
-/
import Derived.Test.YtkkfgajlnpcpcaaGreatDoorRlMayV
import Derived.Test.YtkkfgajlnpcpcaaGreatDoorRlStamp
set_option linter.unusedVariables false
set_option linter.unusedSimpArgs false
namespace Go.GV.YtkkfgajlnpcpcaaGreatDoor
open Go.Proofs
theorem dm (a b : List UInt8) : decide (mkS a = mkS b) = decide (a = b) := decide_eq_decide.2 ⟨mkS_inj, fun h => by rw [h]⟩
def FREQ : List UInt8 := [70, 82, 69, 81]
def sh60 (r : Rl) : Prop := r.2.2.2.2.2.2.1.length ≤ 60 ∧ r.2.2.2.2.2.2.2.1.length ≤ 60 ∧ r.2.2.2.2.2.2.2.2.1.length ≤ 60 ∧ r.2.2.2.2.2.2.2.2.2.1.length ≤ 60 ∧ r.2.2.2.2.2.2.2.2.2.2.1.length ≤ 60 ∧ r.2.2.2.2.2.2.2.2.2.2.2.1.length ≤ 60 ∧ r.2.2.2.2.2.2.2.2.2.2.2.2.1.length ≤ 60 ∧ r.2.2.2.2.2.2.2.2.2.2.2.2.2.1.length ≤ 60 ∧ r.2.2.2.2.2.2.2.2.2.2.2.2.2.2.1.length ≤ 60
/-- What a part makes of a rule, by both. -/
def Part (r : Rl) (name : List UInt8) (a b : Option (Bool × Rl × Unit)) : Prop :=
  (∃ r' : Rl, a = some (true, r', ()) ∧ b = some (true, r', ()) ∧ (sh60 r → sh60 r') ∧ (name = FREQ → r'.1 ≠ 0) ∧ (name ≠ FREQ → r'.1 = r.1)) ∨ (∃ r1 r2 : Rl, a = some (false, r1, ()) ∧ b = some (false, r2, ()))
def fw : List (List UInt8) := [[89, 69, 65, 82, 76, 89], [77, 79, 78, 84, 72, 76, 89], [87, 69, 69, 75, 76, 89], [68, 65, 73, 76, 89], [72, 79, 85, 82, 76, 89], [77, 73, 78, 85, 84, 69, 76, 89], [83, 69, 67, 79, 78, 68, 76, 89]]
theorem words_eq : rule_words.f = some (fw.map mkS, ()) := by rw [rule_words.f_eq]; rfl
theorem freqs_eq : vokref4_freqs.f = some ((([] : List UInt8) :: fw).map mkS, ()) := by rw [vokref4_freqs.f_eq]; rfl
section
variable (f iv ct un wk : Int) (en : Bool) (mo we yd md : List Int) (dy : List Dy) (ho mi se po : List Int)
theorem part_INTERVAL (v : List UInt8) (hv : v.length ≤ 50000) : Part (f, iv, ct, un, wk, en, mo, we, yd, md, dy, ho, mi, se, po, ()) [73, 78, 84, 69, 82, 86, 65, 76] (rule_part.f (f, iv, ct, un, wk, en, mo, we, yd, md, dy, ho, mi, se, po, ()) (mkS [73, 78, 84, 69, 82, 86, 65, 76]) (mkS v)) (vokref4_put.f (f, iv, ct, un, wk, en, mo, we, yd, md, dy, ho, mi, se, po, ()) (mkS [73, 78, 84, 69, 82, 86, 65, 76]) (mkS v)) := by
  have e0 : (⟨#[70, 82, 69, 81]⟩ : ByteArray) = mkS [70, 82, 69, 81] := rfl
  have e1 : (⟨#[73, 78, 84, 69, 82, 86, 65, 76]⟩ : ByteArray) = mkS [73, 78, 84, 69, 82, 86, 65, 76] := rfl
  have e2 : (⟨#[67, 79, 85, 78, 84]⟩ : ByteArray) = mkS [67, 79, 85, 78, 84] := rfl
  have e3 : (⟨#[85, 78, 84, 73, 76]⟩ : ByteArray) = mkS [85, 78, 84, 73, 76] := rfl
  have e4 : (⟨#[66, 89, 68, 65, 89]⟩ : ByteArray) = mkS [66, 89, 68, 65, 89] := rfl
  have e5 : (⟨#[87, 75, 83, 84]⟩ : ByteArray) = mkS [87, 75, 83, 84] := rfl
  have e6 : (⟨#[66, 89, 77, 79, 78, 84, 72]⟩ : ByteArray) = mkS [66, 89, 77, 79, 78, 84, 72] := rfl
  have e7 : (⟨#[66, 89, 87, 69, 69, 75, 78, 79]⟩ : ByteArray) = mkS [66, 89, 87, 69, 69, 75, 78, 79] := rfl
  have e8 : (⟨#[66, 89, 89, 69, 65, 82, 68, 65, 89]⟩ : ByteArray) = mkS [66, 89, 89, 69, 65, 82, 68, 65, 89] := rfl
  have e9 : (⟨#[66, 89, 77, 79, 78, 84, 72, 68, 65, 89]⟩ : ByteArray) = mkS [66, 89, 77, 79, 78, 84, 72, 68, 65, 89] := rfl
  have e10 : (⟨#[66, 89, 72, 79, 85, 82]⟩ : ByteArray) = mkS [66, 89, 72, 79, 85, 82] := rfl
  have e11 : (⟨#[66, 89, 77, 73, 78, 85, 84, 69]⟩ : ByteArray) = mkS [66, 89, 77, 73, 78, 85, 84, 69] := rfl
  have e12 : (⟨#[66, 89, 83, 69, 67, 79, 78, 68]⟩ : ByteArray) = mkS [66, 89, 83, 69, 67, 79, 78, 68] := rfl
  have e13 : (⟨#[66, 89, 83, 69, 84, 80, 79, 83]⟩ : ByteArray) = mkS [66, 89, 83, 69, 84, 80, 79, 83] := rfl
  rw [rule_part.f_eq, vokref4_put.f_eq]
  simp (disch := decide) only [beq_S, e0, e1, e2, e3, e4, e5, e6, e7, e8, e9, e10, e11, e12, e13, dm, dp, dn, cond_true, cond_false]
  rcases number_spec v (by omega) with ⟨n, hn, e⟩ | ⟨hn, n, e⟩ <;> rcases vnumber_spec v (by omega) with ⟨m, hm, g⟩ | ⟨hm, m, g⟩
  · have := isN_uniq hn hm
    subst this
    simp only [e, g, Option.bind_some]
    refine .inl ⟨(f, n, ct, un, wk, en, mo, we, yd, md, dy, ho, mi, se, po, ()), rfl, rfl, ?_, fun h => absurd h (by decide), fun _ => rfl⟩
    exact fun h => h
  · exact absurd hn (hm n)
  · exact absurd hm (hn m)
  · simp only [e, g, Option.bind_some]
    exact .inr ⟨_, _, rfl, rfl⟩
theorem part_COUNT (v : List UInt8) (hv : v.length ≤ 50000) : Part (f, iv, ct, un, wk, en, mo, we, yd, md, dy, ho, mi, se, po, ()) [67, 79, 85, 78, 84] (rule_part.f (f, iv, ct, un, wk, en, mo, we, yd, md, dy, ho, mi, se, po, ()) (mkS [67, 79, 85, 78, 84]) (mkS v)) (vokref4_put.f (f, iv, ct, un, wk, en, mo, we, yd, md, dy, ho, mi, se, po, ()) (mkS [67, 79, 85, 78, 84]) (mkS v)) := by
  have e0 : (⟨#[70, 82, 69, 81]⟩ : ByteArray) = mkS [70, 82, 69, 81] := rfl
  have e1 : (⟨#[73, 78, 84, 69, 82, 86, 65, 76]⟩ : ByteArray) = mkS [73, 78, 84, 69, 82, 86, 65, 76] := rfl
  have e2 : (⟨#[67, 79, 85, 78, 84]⟩ : ByteArray) = mkS [67, 79, 85, 78, 84] := rfl
  have e3 : (⟨#[85, 78, 84, 73, 76]⟩ : ByteArray) = mkS [85, 78, 84, 73, 76] := rfl
  have e4 : (⟨#[66, 89, 68, 65, 89]⟩ : ByteArray) = mkS [66, 89, 68, 65, 89] := rfl
  have e5 : (⟨#[87, 75, 83, 84]⟩ : ByteArray) = mkS [87, 75, 83, 84] := rfl
  have e6 : (⟨#[66, 89, 77, 79, 78, 84, 72]⟩ : ByteArray) = mkS [66, 89, 77, 79, 78, 84, 72] := rfl
  have e7 : (⟨#[66, 89, 87, 69, 69, 75, 78, 79]⟩ : ByteArray) = mkS [66, 89, 87, 69, 69, 75, 78, 79] := rfl
  have e8 : (⟨#[66, 89, 89, 69, 65, 82, 68, 65, 89]⟩ : ByteArray) = mkS [66, 89, 89, 69, 65, 82, 68, 65, 89] := rfl
  have e9 : (⟨#[66, 89, 77, 79, 78, 84, 72, 68, 65, 89]⟩ : ByteArray) = mkS [66, 89, 77, 79, 78, 84, 72, 68, 65, 89] := rfl
  have e10 : (⟨#[66, 89, 72, 79, 85, 82]⟩ : ByteArray) = mkS [66, 89, 72, 79, 85, 82] := rfl
  have e11 : (⟨#[66, 89, 77, 73, 78, 85, 84, 69]⟩ : ByteArray) = mkS [66, 89, 77, 73, 78, 85, 84, 69] := rfl
  have e12 : (⟨#[66, 89, 83, 69, 67, 79, 78, 68]⟩ : ByteArray) = mkS [66, 89, 83, 69, 67, 79, 78, 68] := rfl
  have e13 : (⟨#[66, 89, 83, 69, 84, 80, 79, 83]⟩ : ByteArray) = mkS [66, 89, 83, 69, 84, 80, 79, 83] := rfl
  rw [rule_part.f_eq, vokref4_put.f_eq]
  simp (disch := decide) only [beq_S, e0, e1, e2, e3, e4, e5, e6, e7, e8, e9, e10, e11, e12, e13, dm, dp, dn, cond_true, cond_false]
  rcases number_spec v (by omega) with ⟨n, hn, e⟩ | ⟨hn, n, e⟩ <;> rcases vnumber_spec v (by omega) with ⟨m, hm, g⟩ | ⟨hm, m, g⟩
  · have := isN_uniq hn hm
    subst this
    simp only [e, g, Option.bind_some]
    refine .inl ⟨(f, iv, n, un, wk, en, mo, we, yd, md, dy, ho, mi, se, po, ()), rfl, rfl, ?_, fun h => absurd h (by decide), fun _ => rfl⟩
    exact fun h => h
  · exact absurd hn (hm n)
  · exact absurd hm (hn m)
  · simp only [e, g, Option.bind_some]
    exact .inr ⟨_, _, rfl, rfl⟩
theorem part_UNTIL (v : List UInt8) (hv : v.length ≤ 50000) : Part (f, iv, ct, un, wk, en, mo, we, yd, md, dy, ho, mi, se, po, ()) [85, 78, 84, 73, 76] (rule_part.f (f, iv, ct, un, wk, en, mo, we, yd, md, dy, ho, mi, se, po, ()) (mkS [85, 78, 84, 73, 76]) (mkS v)) (vokref4_put.f (f, iv, ct, un, wk, en, mo, we, yd, md, dy, ho, mi, se, po, ()) (mkS [85, 78, 84, 73, 76]) (mkS v)) := by
  have e0 : (⟨#[70, 82, 69, 81]⟩ : ByteArray) = mkS [70, 82, 69, 81] := rfl
  have e1 : (⟨#[73, 78, 84, 69, 82, 86, 65, 76]⟩ : ByteArray) = mkS [73, 78, 84, 69, 82, 86, 65, 76] := rfl
  have e2 : (⟨#[67, 79, 85, 78, 84]⟩ : ByteArray) = mkS [67, 79, 85, 78, 84] := rfl
  have e3 : (⟨#[85, 78, 84, 73, 76]⟩ : ByteArray) = mkS [85, 78, 84, 73, 76] := rfl
  have e4 : (⟨#[66, 89, 68, 65, 89]⟩ : ByteArray) = mkS [66, 89, 68, 65, 89] := rfl
  have e5 : (⟨#[87, 75, 83, 84]⟩ : ByteArray) = mkS [87, 75, 83, 84] := rfl
  have e6 : (⟨#[66, 89, 77, 79, 78, 84, 72]⟩ : ByteArray) = mkS [66, 89, 77, 79, 78, 84, 72] := rfl
  have e7 : (⟨#[66, 89, 87, 69, 69, 75, 78, 79]⟩ : ByteArray) = mkS [66, 89, 87, 69, 69, 75, 78, 79] := rfl
  have e8 : (⟨#[66, 89, 89, 69, 65, 82, 68, 65, 89]⟩ : ByteArray) = mkS [66, 89, 89, 69, 65, 82, 68, 65, 89] := rfl
  have e9 : (⟨#[66, 89, 77, 79, 78, 84, 72, 68, 65, 89]⟩ : ByteArray) = mkS [66, 89, 77, 79, 78, 84, 72, 68, 65, 89] := rfl
  have e10 : (⟨#[66, 89, 72, 79, 85, 82]⟩ : ByteArray) = mkS [66, 89, 72, 79, 85, 82] := rfl
  have e11 : (⟨#[66, 89, 77, 73, 78, 85, 84, 69]⟩ : ByteArray) = mkS [66, 89, 77, 73, 78, 85, 84, 69] := rfl
  have e12 : (⟨#[66, 89, 83, 69, 67, 79, 78, 68]⟩ : ByteArray) = mkS [66, 89, 83, 69, 67, 79, 78, 68] := rfl
  have e13 : (⟨#[66, 89, 83, 69, 84, 80, 79, 83]⟩ : ByteArray) = mkS [66, 89, 83, 69, 84, 80, 79, 83] := rfl
  rw [rule_part.f_eq, vokref4_put.f_eq]
  simp (disch := decide) only [beq_S, e0, e1, e2, e3, e4, e5, e6, e7, e8, e9, e10, e11, e12, e13, dm, dp, dn, cond_true, cond_false]
  obtain ⟨t, e, h1, h2⟩ := stamp_same v (by omega)
  simp only [h1, h2, Option.bind_some]
  by_cases he : e = 0
  · rw [dp he]
    refine .inl ⟨(f, iv, ct, t, wk, true, mo, we, yd, md, dy, ho, mi, se, po, ()), rfl, rfl, fun h => h, fun h => absurd h (by decide), fun _ => rfl⟩
  · rw [dn he]
    exact .inr ⟨_, _, rfl, rfl⟩
theorem part_BYDAY (v : List UInt8) (hv : v.length ≤ 50000) : Part (f, iv, ct, un, wk, en, mo, we, yd, md, dy, ho, mi, se, po, ()) [66, 89, 68, 65, 89] (rule_part.f (f, iv, ct, un, wk, en, mo, we, yd, md, dy, ho, mi, se, po, ()) (mkS [66, 89, 68, 65, 89]) (mkS v)) (vokref4_put.f (f, iv, ct, un, wk, en, mo, we, yd, md, dy, ho, mi, se, po, ()) (mkS [66, 89, 68, 65, 89]) (mkS v)) := by
  have e0 : (⟨#[70, 82, 69, 81]⟩ : ByteArray) = mkS [70, 82, 69, 81] := rfl
  have e1 : (⟨#[73, 78, 84, 69, 82, 86, 65, 76]⟩ : ByteArray) = mkS [73, 78, 84, 69, 82, 86, 65, 76] := rfl
  have e2 : (⟨#[67, 79, 85, 78, 84]⟩ : ByteArray) = mkS [67, 79, 85, 78, 84] := rfl
  have e3 : (⟨#[85, 78, 84, 73, 76]⟩ : ByteArray) = mkS [85, 78, 84, 73, 76] := rfl
  have e4 : (⟨#[66, 89, 68, 65, 89]⟩ : ByteArray) = mkS [66, 89, 68, 65, 89] := rfl
  have e5 : (⟨#[87, 75, 83, 84]⟩ : ByteArray) = mkS [87, 75, 83, 84] := rfl
  have e6 : (⟨#[66, 89, 77, 79, 78, 84, 72]⟩ : ByteArray) = mkS [66, 89, 77, 79, 78, 84, 72] := rfl
  have e7 : (⟨#[66, 89, 87, 69, 69, 75, 78, 79]⟩ : ByteArray) = mkS [66, 89, 87, 69, 69, 75, 78, 79] := rfl
  have e8 : (⟨#[66, 89, 89, 69, 65, 82, 68, 65, 89]⟩ : ByteArray) = mkS [66, 89, 89, 69, 65, 82, 68, 65, 89] := rfl
  have e9 : (⟨#[66, 89, 77, 79, 78, 84, 72, 68, 65, 89]⟩ : ByteArray) = mkS [66, 89, 77, 79, 78, 84, 72, 68, 65, 89] := rfl
  have e10 : (⟨#[66, 89, 72, 79, 85, 82]⟩ : ByteArray) = mkS [66, 89, 72, 79, 85, 82] := rfl
  have e11 : (⟨#[66, 89, 77, 73, 78, 85, 84, 69]⟩ : ByteArray) = mkS [66, 89, 77, 73, 78, 85, 84, 69] := rfl
  have e12 : (⟨#[66, 89, 83, 69, 67, 79, 78, 68]⟩ : ByteArray) = mkS [66, 89, 83, 69, 67, 79, 78, 68] := rfl
  have e13 : (⟨#[66, 89, 83, 69, 84, 80, 79, 83]⟩ : ByteArray) = mkS [66, 89, 83, 69, 84, 80, 79, 83] := rfl
  rw [rule_part.f_eq, vokref4_put.f_eq]
  simp (disch := decide) only [beq_S, e0, e1, e2, e3, e4, e5, e6, e7, e8, e9, e10, e11, e12, e13, dm, dp, dn, cond_true, cond_false]
  rcases dayList_spec v hv with ⟨r, hr, e, g⟩ | ⟨_, e, g⟩
  · have hr : r.length ≤ 60 := hr.1.2
    simp only [e, g, Option.bind_some]
    refine .inl ⟨(f, iv, ct, un, wk, en, mo, we, yd, md, r, ho, mi, se, po, ()), rfl, rfl, ?_, fun h => absurd h (by decide), fun _ => rfl⟩
    exact fun h => by
      unfold sh60 at *
      dsimp only at *
      exact ⟨h.1, h.2.1, h.2.2.1, h.2.2.2.1, hr, h.2.2.2.2.2.1, h.2.2.2.2.2.2.1, h.2.2.2.2.2.2.2.1, h.2.2.2.2.2.2.2.2⟩
  · simp only [e, g, Option.bind_some]
    exact .inr ⟨_, _, rfl, rfl⟩
theorem part_BYMONTH (v : List UInt8) (hv : v.length ≤ 50000) : Part (f, iv, ct, un, wk, en, mo, we, yd, md, dy, ho, mi, se, po, ()) [66, 89, 77, 79, 78, 84, 72] (rule_part.f (f, iv, ct, un, wk, en, mo, we, yd, md, dy, ho, mi, se, po, ()) (mkS [66, 89, 77, 79, 78, 84, 72]) (mkS v)) (vokref4_put.f (f, iv, ct, un, wk, en, mo, we, yd, md, dy, ho, mi, se, po, ()) (mkS [66, 89, 77, 79, 78, 84, 72]) (mkS v)) := by
  have e0 : (⟨#[70, 82, 69, 81]⟩ : ByteArray) = mkS [70, 82, 69, 81] := rfl
  have e1 : (⟨#[73, 78, 84, 69, 82, 86, 65, 76]⟩ : ByteArray) = mkS [73, 78, 84, 69, 82, 86, 65, 76] := rfl
  have e2 : (⟨#[67, 79, 85, 78, 84]⟩ : ByteArray) = mkS [67, 79, 85, 78, 84] := rfl
  have e3 : (⟨#[85, 78, 84, 73, 76]⟩ : ByteArray) = mkS [85, 78, 84, 73, 76] := rfl
  have e4 : (⟨#[66, 89, 68, 65, 89]⟩ : ByteArray) = mkS [66, 89, 68, 65, 89] := rfl
  have e5 : (⟨#[87, 75, 83, 84]⟩ : ByteArray) = mkS [87, 75, 83, 84] := rfl
  have e6 : (⟨#[66, 89, 77, 79, 78, 84, 72]⟩ : ByteArray) = mkS [66, 89, 77, 79, 78, 84, 72] := rfl
  have e7 : (⟨#[66, 89, 87, 69, 69, 75, 78, 79]⟩ : ByteArray) = mkS [66, 89, 87, 69, 69, 75, 78, 79] := rfl
  have e8 : (⟨#[66, 89, 89, 69, 65, 82, 68, 65, 89]⟩ : ByteArray) = mkS [66, 89, 89, 69, 65, 82, 68, 65, 89] := rfl
  have e9 : (⟨#[66, 89, 77, 79, 78, 84, 72, 68, 65, 89]⟩ : ByteArray) = mkS [66, 89, 77, 79, 78, 84, 72, 68, 65, 89] := rfl
  have e10 : (⟨#[66, 89, 72, 79, 85, 82]⟩ : ByteArray) = mkS [66, 89, 72, 79, 85, 82] := rfl
  have e11 : (⟨#[66, 89, 77, 73, 78, 85, 84, 69]⟩ : ByteArray) = mkS [66, 89, 77, 73, 78, 85, 84, 69] := rfl
  have e12 : (⟨#[66, 89, 83, 69, 67, 79, 78, 68]⟩ : ByteArray) = mkS [66, 89, 83, 69, 67, 79, 78, 68] := rfl
  have e13 : (⟨#[66, 89, 83, 69, 84, 80, 79, 83]⟩ : ByteArray) = mkS [66, 89, 83, 69, 84, 80, 79, 83] := rfl
  rw [rule_part.f_eq, vokref4_put.f_eq]
  simp (disch := decide) only [beq_S, e0, e1, e2, e3, e4, e5, e6, e7, e8, e9, e10, e11, e12, e13, dm, dp, dn, cond_true, cond_false]
  rw [rule_part.l1_eq]
  rcases list_spec v hv with ⟨r, hr, e, g⟩ | ⟨_, e, g⟩
  · have hr : r.length ≤ 60 := hr.1.2
    simp only [e, g, Option.bind_some]
    refine .inl ⟨(f, iv, ct, un, wk, en, r, we, yd, md, dy, ho, mi, se, po, ()), rfl, rfl, ?_, fun h => absurd h (by decide), fun _ => rfl⟩
    exact fun h => by
      unfold sh60 at *
      dsimp only at *
      exact ⟨hr, h.2.1, h.2.2.1, h.2.2.2.1, h.2.2.2.2.1, h.2.2.2.2.2.1, h.2.2.2.2.2.2.1, h.2.2.2.2.2.2.2.1, h.2.2.2.2.2.2.2.2⟩
  · simp only [e, g, Option.bind_some]
    exact .inr ⟨_, _, rfl, rfl⟩
theorem part_BYWEEKNO (v : List UInt8) (hv : v.length ≤ 50000) : Part (f, iv, ct, un, wk, en, mo, we, yd, md, dy, ho, mi, se, po, ()) [66, 89, 87, 69, 69, 75, 78, 79] (rule_part.f (f, iv, ct, un, wk, en, mo, we, yd, md, dy, ho, mi, se, po, ()) (mkS [66, 89, 87, 69, 69, 75, 78, 79]) (mkS v)) (vokref4_put.f (f, iv, ct, un, wk, en, mo, we, yd, md, dy, ho, mi, se, po, ()) (mkS [66, 89, 87, 69, 69, 75, 78, 79]) (mkS v)) := by
  have e0 : (⟨#[70, 82, 69, 81]⟩ : ByteArray) = mkS [70, 82, 69, 81] := rfl
  have e1 : (⟨#[73, 78, 84, 69, 82, 86, 65, 76]⟩ : ByteArray) = mkS [73, 78, 84, 69, 82, 86, 65, 76] := rfl
  have e2 : (⟨#[67, 79, 85, 78, 84]⟩ : ByteArray) = mkS [67, 79, 85, 78, 84] := rfl
  have e3 : (⟨#[85, 78, 84, 73, 76]⟩ : ByteArray) = mkS [85, 78, 84, 73, 76] := rfl
  have e4 : (⟨#[66, 89, 68, 65, 89]⟩ : ByteArray) = mkS [66, 89, 68, 65, 89] := rfl
  have e5 : (⟨#[87, 75, 83, 84]⟩ : ByteArray) = mkS [87, 75, 83, 84] := rfl
  have e6 : (⟨#[66, 89, 77, 79, 78, 84, 72]⟩ : ByteArray) = mkS [66, 89, 77, 79, 78, 84, 72] := rfl
  have e7 : (⟨#[66, 89, 87, 69, 69, 75, 78, 79]⟩ : ByteArray) = mkS [66, 89, 87, 69, 69, 75, 78, 79] := rfl
  have e8 : (⟨#[66, 89, 89, 69, 65, 82, 68, 65, 89]⟩ : ByteArray) = mkS [66, 89, 89, 69, 65, 82, 68, 65, 89] := rfl
  have e9 : (⟨#[66, 89, 77, 79, 78, 84, 72, 68, 65, 89]⟩ : ByteArray) = mkS [66, 89, 77, 79, 78, 84, 72, 68, 65, 89] := rfl
  have e10 : (⟨#[66, 89, 72, 79, 85, 82]⟩ : ByteArray) = mkS [66, 89, 72, 79, 85, 82] := rfl
  have e11 : (⟨#[66, 89, 77, 73, 78, 85, 84, 69]⟩ : ByteArray) = mkS [66, 89, 77, 73, 78, 85, 84, 69] := rfl
  have e12 : (⟨#[66, 89, 83, 69, 67, 79, 78, 68]⟩ : ByteArray) = mkS [66, 89, 83, 69, 67, 79, 78, 68] := rfl
  have e13 : (⟨#[66, 89, 83, 69, 84, 80, 79, 83]⟩ : ByteArray) = mkS [66, 89, 83, 69, 84, 80, 79, 83] := rfl
  rw [rule_part.f_eq, vokref4_put.f_eq]
  simp (disch := decide) only [beq_S, e0, e1, e2, e3, e4, e5, e6, e7, e8, e9, e10, e11, e12, e13, dm, dp, dn, cond_true, cond_false]
  rw [rule_part.l1a_eq]
  rcases list_spec v hv with ⟨r, hr, e, g⟩ | ⟨_, e, g⟩
  · have hr : r.length ≤ 60 := hr.1.2
    simp only [e, g, Option.bind_some]
    refine .inl ⟨(f, iv, ct, un, wk, en, mo, r, yd, md, dy, ho, mi, se, po, ()), rfl, rfl, ?_, fun h => absurd h (by decide), fun _ => rfl⟩
    exact fun h => by
      unfold sh60 at *
      dsimp only at *
      exact ⟨h.1, hr, h.2.2.1, h.2.2.2.1, h.2.2.2.2.1, h.2.2.2.2.2.1, h.2.2.2.2.2.2.1, h.2.2.2.2.2.2.2.1, h.2.2.2.2.2.2.2.2⟩
  · simp only [e, g, Option.bind_some]
    exact .inr ⟨_, _, rfl, rfl⟩
theorem part_BYYEARDAY (v : List UInt8) (hv : v.length ≤ 50000) : Part (f, iv, ct, un, wk, en, mo, we, yd, md, dy, ho, mi, se, po, ()) [66, 89, 89, 69, 65, 82, 68, 65, 89] (rule_part.f (f, iv, ct, un, wk, en, mo, we, yd, md, dy, ho, mi, se, po, ()) (mkS [66, 89, 89, 69, 65, 82, 68, 65, 89]) (mkS v)) (vokref4_put.f (f, iv, ct, un, wk, en, mo, we, yd, md, dy, ho, mi, se, po, ()) (mkS [66, 89, 89, 69, 65, 82, 68, 65, 89]) (mkS v)) := by
  have e0 : (⟨#[70, 82, 69, 81]⟩ : ByteArray) = mkS [70, 82, 69, 81] := rfl
  have e1 : (⟨#[73, 78, 84, 69, 82, 86, 65, 76]⟩ : ByteArray) = mkS [73, 78, 84, 69, 82, 86, 65, 76] := rfl
  have e2 : (⟨#[67, 79, 85, 78, 84]⟩ : ByteArray) = mkS [67, 79, 85, 78, 84] := rfl
  have e3 : (⟨#[85, 78, 84, 73, 76]⟩ : ByteArray) = mkS [85, 78, 84, 73, 76] := rfl
  have e4 : (⟨#[66, 89, 68, 65, 89]⟩ : ByteArray) = mkS [66, 89, 68, 65, 89] := rfl
  have e5 : (⟨#[87, 75, 83, 84]⟩ : ByteArray) = mkS [87, 75, 83, 84] := rfl
  have e6 : (⟨#[66, 89, 77, 79, 78, 84, 72]⟩ : ByteArray) = mkS [66, 89, 77, 79, 78, 84, 72] := rfl
  have e7 : (⟨#[66, 89, 87, 69, 69, 75, 78, 79]⟩ : ByteArray) = mkS [66, 89, 87, 69, 69, 75, 78, 79] := rfl
  have e8 : (⟨#[66, 89, 89, 69, 65, 82, 68, 65, 89]⟩ : ByteArray) = mkS [66, 89, 89, 69, 65, 82, 68, 65, 89] := rfl
  have e9 : (⟨#[66, 89, 77, 79, 78, 84, 72, 68, 65, 89]⟩ : ByteArray) = mkS [66, 89, 77, 79, 78, 84, 72, 68, 65, 89] := rfl
  have e10 : (⟨#[66, 89, 72, 79, 85, 82]⟩ : ByteArray) = mkS [66, 89, 72, 79, 85, 82] := rfl
  have e11 : (⟨#[66, 89, 77, 73, 78, 85, 84, 69]⟩ : ByteArray) = mkS [66, 89, 77, 73, 78, 85, 84, 69] := rfl
  have e12 : (⟨#[66, 89, 83, 69, 67, 79, 78, 68]⟩ : ByteArray) = mkS [66, 89, 83, 69, 67, 79, 78, 68] := rfl
  have e13 : (⟨#[66, 89, 83, 69, 84, 80, 79, 83]⟩ : ByteArray) = mkS [66, 89, 83, 69, 84, 80, 79, 83] := rfl
  rw [rule_part.f_eq, vokref4_put.f_eq]
  simp (disch := decide) only [beq_S, e0, e1, e2, e3, e4, e5, e6, e7, e8, e9, e10, e11, e12, e13, dm, dp, dn, cond_true, cond_false]
  rw [rule_part.l1b_eq]
  rcases list_spec v hv with ⟨r, hr, e, g⟩ | ⟨_, e, g⟩
  · have hr : r.length ≤ 60 := hr.1.2
    simp only [e, g, Option.bind_some]
    refine .inl ⟨(f, iv, ct, un, wk, en, mo, we, r, md, dy, ho, mi, se, po, ()), rfl, rfl, ?_, fun h => absurd h (by decide), fun _ => rfl⟩
    exact fun h => by
      unfold sh60 at *
      dsimp only at *
      exact ⟨h.1, h.2.1, hr, h.2.2.2.1, h.2.2.2.2.1, h.2.2.2.2.2.1, h.2.2.2.2.2.2.1, h.2.2.2.2.2.2.2.1, h.2.2.2.2.2.2.2.2⟩
  · simp only [e, g, Option.bind_some]
    exact .inr ⟨_, _, rfl, rfl⟩
theorem part_BYMONTHDAY (v : List UInt8) (hv : v.length ≤ 50000) : Part (f, iv, ct, un, wk, en, mo, we, yd, md, dy, ho, mi, se, po, ()) [66, 89, 77, 79, 78, 84, 72, 68, 65, 89] (rule_part.f (f, iv, ct, un, wk, en, mo, we, yd, md, dy, ho, mi, se, po, ()) (mkS [66, 89, 77, 79, 78, 84, 72, 68, 65, 89]) (mkS v)) (vokref4_put.f (f, iv, ct, un, wk, en, mo, we, yd, md, dy, ho, mi, se, po, ()) (mkS [66, 89, 77, 79, 78, 84, 72, 68, 65, 89]) (mkS v)) := by
  have e0 : (⟨#[70, 82, 69, 81]⟩ : ByteArray) = mkS [70, 82, 69, 81] := rfl
  have e1 : (⟨#[73, 78, 84, 69, 82, 86, 65, 76]⟩ : ByteArray) = mkS [73, 78, 84, 69, 82, 86, 65, 76] := rfl
  have e2 : (⟨#[67, 79, 85, 78, 84]⟩ : ByteArray) = mkS [67, 79, 85, 78, 84] := rfl
  have e3 : (⟨#[85, 78, 84, 73, 76]⟩ : ByteArray) = mkS [85, 78, 84, 73, 76] := rfl
  have e4 : (⟨#[66, 89, 68, 65, 89]⟩ : ByteArray) = mkS [66, 89, 68, 65, 89] := rfl
  have e5 : (⟨#[87, 75, 83, 84]⟩ : ByteArray) = mkS [87, 75, 83, 84] := rfl
  have e6 : (⟨#[66, 89, 77, 79, 78, 84, 72]⟩ : ByteArray) = mkS [66, 89, 77, 79, 78, 84, 72] := rfl
  have e7 : (⟨#[66, 89, 87, 69, 69, 75, 78, 79]⟩ : ByteArray) = mkS [66, 89, 87, 69, 69, 75, 78, 79] := rfl
  have e8 : (⟨#[66, 89, 89, 69, 65, 82, 68, 65, 89]⟩ : ByteArray) = mkS [66, 89, 89, 69, 65, 82, 68, 65, 89] := rfl
  have e9 : (⟨#[66, 89, 77, 79, 78, 84, 72, 68, 65, 89]⟩ : ByteArray) = mkS [66, 89, 77, 79, 78, 84, 72, 68, 65, 89] := rfl
  have e10 : (⟨#[66, 89, 72, 79, 85, 82]⟩ : ByteArray) = mkS [66, 89, 72, 79, 85, 82] := rfl
  have e11 : (⟨#[66, 89, 77, 73, 78, 85, 84, 69]⟩ : ByteArray) = mkS [66, 89, 77, 73, 78, 85, 84, 69] := rfl
  have e12 : (⟨#[66, 89, 83, 69, 67, 79, 78, 68]⟩ : ByteArray) = mkS [66, 89, 83, 69, 67, 79, 78, 68] := rfl
  have e13 : (⟨#[66, 89, 83, 69, 84, 80, 79, 83]⟩ : ByteArray) = mkS [66, 89, 83, 69, 84, 80, 79, 83] := rfl
  rw [rule_part.f_eq, vokref4_put.f_eq]
  simp (disch := decide) only [beq_S, e0, e1, e2, e3, e4, e5, e6, e7, e8, e9, e10, e11, e12, e13, dm, dp, dn, cond_true, cond_false]
  rw [rule_part.l1c_eq]
  rcases list_spec v hv with ⟨r, hr, e, g⟩ | ⟨_, e, g⟩
  · have hr : r.length ≤ 60 := hr.1.2
    simp only [e, g, Option.bind_some]
    refine .inl ⟨(f, iv, ct, un, wk, en, mo, we, yd, r, dy, ho, mi, se, po, ()), rfl, rfl, ?_, fun h => absurd h (by decide), fun _ => rfl⟩
    exact fun h => by
      unfold sh60 at *
      dsimp only at *
      exact ⟨h.1, h.2.1, h.2.2.1, hr, h.2.2.2.2.1, h.2.2.2.2.2.1, h.2.2.2.2.2.2.1, h.2.2.2.2.2.2.2.1, h.2.2.2.2.2.2.2.2⟩
  · simp only [e, g, Option.bind_some]
    exact .inr ⟨_, _, rfl, rfl⟩
theorem part_BYHOUR (v : List UInt8) (hv : v.length ≤ 50000) : Part (f, iv, ct, un, wk, en, mo, we, yd, md, dy, ho, mi, se, po, ()) [66, 89, 72, 79, 85, 82] (rule_part.f (f, iv, ct, un, wk, en, mo, we, yd, md, dy, ho, mi, se, po, ()) (mkS [66, 89, 72, 79, 85, 82]) (mkS v)) (vokref4_put.f (f, iv, ct, un, wk, en, mo, we, yd, md, dy, ho, mi, se, po, ()) (mkS [66, 89, 72, 79, 85, 82]) (mkS v)) := by
  have e0 : (⟨#[70, 82, 69, 81]⟩ : ByteArray) = mkS [70, 82, 69, 81] := rfl
  have e1 : (⟨#[73, 78, 84, 69, 82, 86, 65, 76]⟩ : ByteArray) = mkS [73, 78, 84, 69, 82, 86, 65, 76] := rfl
  have e2 : (⟨#[67, 79, 85, 78, 84]⟩ : ByteArray) = mkS [67, 79, 85, 78, 84] := rfl
  have e3 : (⟨#[85, 78, 84, 73, 76]⟩ : ByteArray) = mkS [85, 78, 84, 73, 76] := rfl
  have e4 : (⟨#[66, 89, 68, 65, 89]⟩ : ByteArray) = mkS [66, 89, 68, 65, 89] := rfl
  have e5 : (⟨#[87, 75, 83, 84]⟩ : ByteArray) = mkS [87, 75, 83, 84] := rfl
  have e6 : (⟨#[66, 89, 77, 79, 78, 84, 72]⟩ : ByteArray) = mkS [66, 89, 77, 79, 78, 84, 72] := rfl
  have e7 : (⟨#[66, 89, 87, 69, 69, 75, 78, 79]⟩ : ByteArray) = mkS [66, 89, 87, 69, 69, 75, 78, 79] := rfl
  have e8 : (⟨#[66, 89, 89, 69, 65, 82, 68, 65, 89]⟩ : ByteArray) = mkS [66, 89, 89, 69, 65, 82, 68, 65, 89] := rfl
  have e9 : (⟨#[66, 89, 77, 79, 78, 84, 72, 68, 65, 89]⟩ : ByteArray) = mkS [66, 89, 77, 79, 78, 84, 72, 68, 65, 89] := rfl
  have e10 : (⟨#[66, 89, 72, 79, 85, 82]⟩ : ByteArray) = mkS [66, 89, 72, 79, 85, 82] := rfl
  have e11 : (⟨#[66, 89, 77, 73, 78, 85, 84, 69]⟩ : ByteArray) = mkS [66, 89, 77, 73, 78, 85, 84, 69] := rfl
  have e12 : (⟨#[66, 89, 83, 69, 67, 79, 78, 68]⟩ : ByteArray) = mkS [66, 89, 83, 69, 67, 79, 78, 68] := rfl
  have e13 : (⟨#[66, 89, 83, 69, 84, 80, 79, 83]⟩ : ByteArray) = mkS [66, 89, 83, 69, 84, 80, 79, 83] := rfl
  rw [rule_part.f_eq, vokref4_put.f_eq]
  simp (disch := decide) only [beq_S, e0, e1, e2, e3, e4, e5, e6, e7, e8, e9, e10, e11, e12, e13, dm, dp, dn, cond_true, cond_false]
  rw [rule_part.l1d_eq]
  rcases list_spec v hv with ⟨r, hr, e, g⟩ | ⟨_, e, g⟩
  · have hr : r.length ≤ 60 := hr.1.2
    simp only [e, g, Option.bind_some]
    refine .inl ⟨(f, iv, ct, un, wk, en, mo, we, yd, md, dy, r, mi, se, po, ()), rfl, rfl, ?_, fun h => absurd h (by decide), fun _ => rfl⟩
    exact fun h => by
      unfold sh60 at *
      dsimp only at *
      exact ⟨h.1, h.2.1, h.2.2.1, h.2.2.2.1, h.2.2.2.2.1, hr, h.2.2.2.2.2.2.1, h.2.2.2.2.2.2.2.1, h.2.2.2.2.2.2.2.2⟩
  · simp only [e, g, Option.bind_some]
    exact .inr ⟨_, _, rfl, rfl⟩
theorem part_BYMINUTE (v : List UInt8) (hv : v.length ≤ 50000) : Part (f, iv, ct, un, wk, en, mo, we, yd, md, dy, ho, mi, se, po, ()) [66, 89, 77, 73, 78, 85, 84, 69] (rule_part.f (f, iv, ct, un, wk, en, mo, we, yd, md, dy, ho, mi, se, po, ()) (mkS [66, 89, 77, 73, 78, 85, 84, 69]) (mkS v)) (vokref4_put.f (f, iv, ct, un, wk, en, mo, we, yd, md, dy, ho, mi, se, po, ()) (mkS [66, 89, 77, 73, 78, 85, 84, 69]) (mkS v)) := by
  have e0 : (⟨#[70, 82, 69, 81]⟩ : ByteArray) = mkS [70, 82, 69, 81] := rfl
  have e1 : (⟨#[73, 78, 84, 69, 82, 86, 65, 76]⟩ : ByteArray) = mkS [73, 78, 84, 69, 82, 86, 65, 76] := rfl
  have e2 : (⟨#[67, 79, 85, 78, 84]⟩ : ByteArray) = mkS [67, 79, 85, 78, 84] := rfl
  have e3 : (⟨#[85, 78, 84, 73, 76]⟩ : ByteArray) = mkS [85, 78, 84, 73, 76] := rfl
  have e4 : (⟨#[66, 89, 68, 65, 89]⟩ : ByteArray) = mkS [66, 89, 68, 65, 89] := rfl
  have e5 : (⟨#[87, 75, 83, 84]⟩ : ByteArray) = mkS [87, 75, 83, 84] := rfl
  have e6 : (⟨#[66, 89, 77, 79, 78, 84, 72]⟩ : ByteArray) = mkS [66, 89, 77, 79, 78, 84, 72] := rfl
  have e7 : (⟨#[66, 89, 87, 69, 69, 75, 78, 79]⟩ : ByteArray) = mkS [66, 89, 87, 69, 69, 75, 78, 79] := rfl
  have e8 : (⟨#[66, 89, 89, 69, 65, 82, 68, 65, 89]⟩ : ByteArray) = mkS [66, 89, 89, 69, 65, 82, 68, 65, 89] := rfl
  have e9 : (⟨#[66, 89, 77, 79, 78, 84, 72, 68, 65, 89]⟩ : ByteArray) = mkS [66, 89, 77, 79, 78, 84, 72, 68, 65, 89] := rfl
  have e10 : (⟨#[66, 89, 72, 79, 85, 82]⟩ : ByteArray) = mkS [66, 89, 72, 79, 85, 82] := rfl
  have e11 : (⟨#[66, 89, 77, 73, 78, 85, 84, 69]⟩ : ByteArray) = mkS [66, 89, 77, 73, 78, 85, 84, 69] := rfl
  have e12 : (⟨#[66, 89, 83, 69, 67, 79, 78, 68]⟩ : ByteArray) = mkS [66, 89, 83, 69, 67, 79, 78, 68] := rfl
  have e13 : (⟨#[66, 89, 83, 69, 84, 80, 79, 83]⟩ : ByteArray) = mkS [66, 89, 83, 69, 84, 80, 79, 83] := rfl
  rw [rule_part.f_eq, vokref4_put.f_eq]
  simp (disch := decide) only [beq_S, e0, e1, e2, e3, e4, e5, e6, e7, e8, e9, e10, e11, e12, e13, dm, dp, dn, cond_true, cond_false]
  rw [rule_part.l1e_eq]
  rcases list_spec v hv with ⟨r, hr, e, g⟩ | ⟨_, e, g⟩
  · have hr : r.length ≤ 60 := hr.1.2
    simp only [e, g, Option.bind_some]
    refine .inl ⟨(f, iv, ct, un, wk, en, mo, we, yd, md, dy, ho, r, se, po, ()), rfl, rfl, ?_, fun h => absurd h (by decide), fun _ => rfl⟩
    exact fun h => by
      unfold sh60 at *
      dsimp only at *
      exact ⟨h.1, h.2.1, h.2.2.1, h.2.2.2.1, h.2.2.2.2.1, h.2.2.2.2.2.1, hr, h.2.2.2.2.2.2.2.1, h.2.2.2.2.2.2.2.2⟩
  · simp only [e, g, Option.bind_some]
    exact .inr ⟨_, _, rfl, rfl⟩
theorem part_BYSECOND (v : List UInt8) (hv : v.length ≤ 50000) : Part (f, iv, ct, un, wk, en, mo, we, yd, md, dy, ho, mi, se, po, ()) [66, 89, 83, 69, 67, 79, 78, 68] (rule_part.f (f, iv, ct, un, wk, en, mo, we, yd, md, dy, ho, mi, se, po, ()) (mkS [66, 89, 83, 69, 67, 79, 78, 68]) (mkS v)) (vokref4_put.f (f, iv, ct, un, wk, en, mo, we, yd, md, dy, ho, mi, se, po, ()) (mkS [66, 89, 83, 69, 67, 79, 78, 68]) (mkS v)) := by
  have e0 : (⟨#[70, 82, 69, 81]⟩ : ByteArray) = mkS [70, 82, 69, 81] := rfl
  have e1 : (⟨#[73, 78, 84, 69, 82, 86, 65, 76]⟩ : ByteArray) = mkS [73, 78, 84, 69, 82, 86, 65, 76] := rfl
  have e2 : (⟨#[67, 79, 85, 78, 84]⟩ : ByteArray) = mkS [67, 79, 85, 78, 84] := rfl
  have e3 : (⟨#[85, 78, 84, 73, 76]⟩ : ByteArray) = mkS [85, 78, 84, 73, 76] := rfl
  have e4 : (⟨#[66, 89, 68, 65, 89]⟩ : ByteArray) = mkS [66, 89, 68, 65, 89] := rfl
  have e5 : (⟨#[87, 75, 83, 84]⟩ : ByteArray) = mkS [87, 75, 83, 84] := rfl
  have e6 : (⟨#[66, 89, 77, 79, 78, 84, 72]⟩ : ByteArray) = mkS [66, 89, 77, 79, 78, 84, 72] := rfl
  have e7 : (⟨#[66, 89, 87, 69, 69, 75, 78, 79]⟩ : ByteArray) = mkS [66, 89, 87, 69, 69, 75, 78, 79] := rfl
  have e8 : (⟨#[66, 89, 89, 69, 65, 82, 68, 65, 89]⟩ : ByteArray) = mkS [66, 89, 89, 69, 65, 82, 68, 65, 89] := rfl
  have e9 : (⟨#[66, 89, 77, 79, 78, 84, 72, 68, 65, 89]⟩ : ByteArray) = mkS [66, 89, 77, 79, 78, 84, 72, 68, 65, 89] := rfl
  have e10 : (⟨#[66, 89, 72, 79, 85, 82]⟩ : ByteArray) = mkS [66, 89, 72, 79, 85, 82] := rfl
  have e11 : (⟨#[66, 89, 77, 73, 78, 85, 84, 69]⟩ : ByteArray) = mkS [66, 89, 77, 73, 78, 85, 84, 69] := rfl
  have e12 : (⟨#[66, 89, 83, 69, 67, 79, 78, 68]⟩ : ByteArray) = mkS [66, 89, 83, 69, 67, 79, 78, 68] := rfl
  have e13 : (⟨#[66, 89, 83, 69, 84, 80, 79, 83]⟩ : ByteArray) = mkS [66, 89, 83, 69, 84, 80, 79, 83] := rfl
  rw [rule_part.f_eq, vokref4_put.f_eq]
  simp (disch := decide) only [beq_S, e0, e1, e2, e3, e4, e5, e6, e7, e8, e9, e10, e11, e12, e13, dm, dp, dn, cond_true, cond_false]
  rw [rule_part.l1f_eq]
  rcases list_spec v hv with ⟨r, hr, e, g⟩ | ⟨_, e, g⟩
  · have hr : r.length ≤ 60 := hr.1.2
    simp only [e, g, Option.bind_some]
    refine .inl ⟨(f, iv, ct, un, wk, en, mo, we, yd, md, dy, ho, mi, r, po, ()), rfl, rfl, ?_, fun h => absurd h (by decide), fun _ => rfl⟩
    exact fun h => by
      unfold sh60 at *
      dsimp only at *
      exact ⟨h.1, h.2.1, h.2.2.1, h.2.2.2.1, h.2.2.2.2.1, h.2.2.2.2.2.1, h.2.2.2.2.2.2.1, hr, h.2.2.2.2.2.2.2.2⟩
  · simp only [e, g, Option.bind_some]
    exact .inr ⟨_, _, rfl, rfl⟩
theorem part_BYSETPOS (v : List UInt8) (hv : v.length ≤ 50000) : Part (f, iv, ct, un, wk, en, mo, we, yd, md, dy, ho, mi, se, po, ()) [66, 89, 83, 69, 84, 80, 79, 83] (rule_part.f (f, iv, ct, un, wk, en, mo, we, yd, md, dy, ho, mi, se, po, ()) (mkS [66, 89, 83, 69, 84, 80, 79, 83]) (mkS v)) (vokref4_put.f (f, iv, ct, un, wk, en, mo, we, yd, md, dy, ho, mi, se, po, ()) (mkS [66, 89, 83, 69, 84, 80, 79, 83]) (mkS v)) := by
  have e0 : (⟨#[70, 82, 69, 81]⟩ : ByteArray) = mkS [70, 82, 69, 81] := rfl
  have e1 : (⟨#[73, 78, 84, 69, 82, 86, 65, 76]⟩ : ByteArray) = mkS [73, 78, 84, 69, 82, 86, 65, 76] := rfl
  have e2 : (⟨#[67, 79, 85, 78, 84]⟩ : ByteArray) = mkS [67, 79, 85, 78, 84] := rfl
  have e3 : (⟨#[85, 78, 84, 73, 76]⟩ : ByteArray) = mkS [85, 78, 84, 73, 76] := rfl
  have e4 : (⟨#[66, 89, 68, 65, 89]⟩ : ByteArray) = mkS [66, 89, 68, 65, 89] := rfl
  have e5 : (⟨#[87, 75, 83, 84]⟩ : ByteArray) = mkS [87, 75, 83, 84] := rfl
  have e6 : (⟨#[66, 89, 77, 79, 78, 84, 72]⟩ : ByteArray) = mkS [66, 89, 77, 79, 78, 84, 72] := rfl
  have e7 : (⟨#[66, 89, 87, 69, 69, 75, 78, 79]⟩ : ByteArray) = mkS [66, 89, 87, 69, 69, 75, 78, 79] := rfl
  have e8 : (⟨#[66, 89, 89, 69, 65, 82, 68, 65, 89]⟩ : ByteArray) = mkS [66, 89, 89, 69, 65, 82, 68, 65, 89] := rfl
  have e9 : (⟨#[66, 89, 77, 79, 78, 84, 72, 68, 65, 89]⟩ : ByteArray) = mkS [66, 89, 77, 79, 78, 84, 72, 68, 65, 89] := rfl
  have e10 : (⟨#[66, 89, 72, 79, 85, 82]⟩ : ByteArray) = mkS [66, 89, 72, 79, 85, 82] := rfl
  have e11 : (⟨#[66, 89, 77, 73, 78, 85, 84, 69]⟩ : ByteArray) = mkS [66, 89, 77, 73, 78, 85, 84, 69] := rfl
  have e12 : (⟨#[66, 89, 83, 69, 67, 79, 78, 68]⟩ : ByteArray) = mkS [66, 89, 83, 69, 67, 79, 78, 68] := rfl
  have e13 : (⟨#[66, 89, 83, 69, 84, 80, 79, 83]⟩ : ByteArray) = mkS [66, 89, 83, 69, 84, 80, 79, 83] := rfl
  rw [rule_part.f_eq, vokref4_put.f_eq]
  simp (disch := decide) only [beq_S, e0, e1, e2, e3, e4, e5, e6, e7, e8, e9, e10, e11, e12, e13, dm, dp, dn, cond_true, cond_false]
  rw [rule_part.l1g_eq]
  rcases list_spec v hv with ⟨r, hr, e, g⟩ | ⟨_, e, g⟩
  · have hr : r.length ≤ 60 := hr.1.2
    simp only [e, g, Option.bind_some]
    refine .inl ⟨(f, iv, ct, un, wk, en, mo, we, yd, md, dy, ho, mi, se, r, ()), rfl, rfl, ?_, fun h => absurd h (by decide), fun _ => rfl⟩
    exact fun h => by
      unfold sh60 at *
      dsimp only at *
      exact ⟨h.1, h.2.1, h.2.2.1, h.2.2.2.1, h.2.2.2.2.1, h.2.2.2.2.2.1, h.2.2.2.2.2.2.1, h.2.2.2.2.2.2.2.1, hr⟩
  · simp only [e, g, Option.bind_some]
    exact .inr ⟨_, _, rfl, rfl⟩
theorem part_WKST (v : List UInt8) (hv : v.length ≤ 50000) : Part (f, iv, ct, un, wk, en, mo, we, yd, md, dy, ho, mi, se, po, ()) [87, 75, 83, 84] (rule_part.f (f, iv, ct, un, wk, en, mo, we, yd, md, dy, ho, mi, se, po, ()) (mkS [87, 75, 83, 84]) (mkS v)) (vokref4_put.f (f, iv, ct, un, wk, en, mo, we, yd, md, dy, ho, mi, se, po, ()) (mkS [87, 75, 83, 84]) (mkS v)) := by
  have e0 : (⟨#[70, 82, 69, 81]⟩ : ByteArray) = mkS [70, 82, 69, 81] := rfl
  have e1 : (⟨#[73, 78, 84, 69, 82, 86, 65, 76]⟩ : ByteArray) = mkS [73, 78, 84, 69, 82, 86, 65, 76] := rfl
  have e2 : (⟨#[67, 79, 85, 78, 84]⟩ : ByteArray) = mkS [67, 79, 85, 78, 84] := rfl
  have e3 : (⟨#[85, 78, 84, 73, 76]⟩ : ByteArray) = mkS [85, 78, 84, 73, 76] := rfl
  have e4 : (⟨#[66, 89, 68, 65, 89]⟩ : ByteArray) = mkS [66, 89, 68, 65, 89] := rfl
  have e5 : (⟨#[87, 75, 83, 84]⟩ : ByteArray) = mkS [87, 75, 83, 84] := rfl
  have e6 : (⟨#[66, 89, 77, 79, 78, 84, 72]⟩ : ByteArray) = mkS [66, 89, 77, 79, 78, 84, 72] := rfl
  have e7 : (⟨#[66, 89, 87, 69, 69, 75, 78, 79]⟩ : ByteArray) = mkS [66, 89, 87, 69, 69, 75, 78, 79] := rfl
  have e8 : (⟨#[66, 89, 89, 69, 65, 82, 68, 65, 89]⟩ : ByteArray) = mkS [66, 89, 89, 69, 65, 82, 68, 65, 89] := rfl
  have e9 : (⟨#[66, 89, 77, 79, 78, 84, 72, 68, 65, 89]⟩ : ByteArray) = mkS [66, 89, 77, 79, 78, 84, 72, 68, 65, 89] := rfl
  have e10 : (⟨#[66, 89, 72, 79, 85, 82]⟩ : ByteArray) = mkS [66, 89, 72, 79, 85, 82] := rfl
  have e11 : (⟨#[66, 89, 77, 73, 78, 85, 84, 69]⟩ : ByteArray) = mkS [66, 89, 77, 73, 78, 85, 84, 69] := rfl
  have e12 : (⟨#[66, 89, 83, 69, 67, 79, 78, 68]⟩ : ByteArray) = mkS [66, 89, 83, 69, 67, 79, 78, 68] := rfl
  have e13 : (⟨#[66, 89, 83, 69, 84, 80, 79, 83]⟩ : ByteArray) = mkS [66, 89, 83, 69, 84, 80, 79, 83] := rfl
  rw [rule_part.f_eq, vokref4_put.f_eq]
  simp (disch := decide) only [beq_S, e0, e1, e2, e3, e4, e5, e6, e7, e8, e9, e10, e11, e12, e13, dm, dp, dn, cond_true, cond_false]
  have hI := index_spec wd v (by decide)
  have hW := word_spec wd v (by decide)
  have hp := posF_ge wd v 0 (by omega)
  have hnil : ([] : List UInt8) ∉ wd := by decide
  simp only [weekdays_eq, wdays_eq, hI, hW, Option.bind_some]
  by_cases c : v ∈ wd
  · have hv0 : v ≠ [] := fun q => hnil (q ▸ c)
    have hge := hp.1.2 c
    rw [if_neg hv0, dp (show posF 0 wd v ≥ 0 from hge)]
    exact .inl ⟨_, rfl, rfl, fun h => h, fun h => absurd h (by decide), fun _ => rfl⟩
  · have hlt : ¬ posF 0 wd v ≥ 0 := fun q => c (hp.1.1 q)
    have : ¬ (if v = [] then (-1 : Int) else posF 0 wd v) ≥ 0 := by split <;> omega
    rw [dn hlt, dn this]
    exact .inr ⟨_, _, rfl, rfl⟩
theorem part_FREQ (v : List UInt8) (hv : v.length ≤ 50000) : Part (f, iv, ct, un, wk, en, mo, we, yd, md, dy, ho, mi, se, po, ()) [70, 82, 69, 81] (rule_part.f (f, iv, ct, un, wk, en, mo, we, yd, md, dy, ho, mi, se, po, ()) (mkS [70, 82, 69, 81]) (mkS v)) (vokref4_put.f (f, iv, ct, un, wk, en, mo, we, yd, md, dy, ho, mi, se, po, ()) (mkS [70, 82, 69, 81]) (mkS v)) := by
  have e0 : (⟨#[70, 82, 69, 81]⟩ : ByteArray) = mkS [70, 82, 69, 81] := rfl
  have e1 : (⟨#[73, 78, 84, 69, 82, 86, 65, 76]⟩ : ByteArray) = mkS [73, 78, 84, 69, 82, 86, 65, 76] := rfl
  have e2 : (⟨#[67, 79, 85, 78, 84]⟩ : ByteArray) = mkS [67, 79, 85, 78, 84] := rfl
  have e3 : (⟨#[85, 78, 84, 73, 76]⟩ : ByteArray) = mkS [85, 78, 84, 73, 76] := rfl
  have e4 : (⟨#[66, 89, 68, 65, 89]⟩ : ByteArray) = mkS [66, 89, 68, 65, 89] := rfl
  have e5 : (⟨#[87, 75, 83, 84]⟩ : ByteArray) = mkS [87, 75, 83, 84] := rfl
  have e6 : (⟨#[66, 89, 77, 79, 78, 84, 72]⟩ : ByteArray) = mkS [66, 89, 77, 79, 78, 84, 72] := rfl
  have e7 : (⟨#[66, 89, 87, 69, 69, 75, 78, 79]⟩ : ByteArray) = mkS [66, 89, 87, 69, 69, 75, 78, 79] := rfl
  have e8 : (⟨#[66, 89, 89, 69, 65, 82, 68, 65, 89]⟩ : ByteArray) = mkS [66, 89, 89, 69, 65, 82, 68, 65, 89] := rfl
  have e9 : (⟨#[66, 89, 77, 79, 78, 84, 72, 68, 65, 89]⟩ : ByteArray) = mkS [66, 89, 77, 79, 78, 84, 72, 68, 65, 89] := rfl
  have e10 : (⟨#[66, 89, 72, 79, 85, 82]⟩ : ByteArray) = mkS [66, 89, 72, 79, 85, 82] := rfl
  have e11 : (⟨#[66, 89, 77, 73, 78, 85, 84, 69]⟩ : ByteArray) = mkS [66, 89, 77, 73, 78, 85, 84, 69] := rfl
  have e12 : (⟨#[66, 89, 83, 69, 67, 79, 78, 68]⟩ : ByteArray) = mkS [66, 89, 83, 69, 67, 79, 78, 68] := rfl
  have e13 : (⟨#[66, 89, 83, 69, 84, 80, 79, 83]⟩ : ByteArray) = mkS [66, 89, 83, 69, 84, 80, 79, 83] := rfl
  rw [rule_part.f_eq, vokref4_put.f_eq]
  simp (disch := decide) only [beq_S, e0, e1, e2, e3, e4, e5, e6, e7, e8, e9, e10, e11, e12, e13, dm, dp, dn, cond_true, cond_false]
  have hI := index_spec fw v (by decide)
  have hW := word_spec ([] :: fw) v (by decide)
  have hp := posF_ge fw v 0 (by omega)
  have hlt7 := posF_lt fw v 0 (by omega)
  have hl7 : (fw.length : Int) = 7 := rfl
  have hnil : ([] : List UInt8) ∉ fw := by decide
  have hs := posF_succ fw v 0
  have hw : IntKind.i64.wrap (posF 0 fw v + 1) = posF 0 fw v + 1 := wr (by omega) (by omega)
  simp only [words_eq, freqs_eq, hI, hW, Option.bind_some, hw]
  by_cases c : v ∈ fw
  · have hv0 : v ≠ [] := fun q => hnil (q ▸ c)
    have hge := hp.1.2 c
    have e : posF 0 ([] :: fw) v = posF 0 fw v + 1 := by
      show (if [] = v then (0 : Int) else posF (0 + 1) fw v) = _
      rw [if_neg fun q => hv0 q.symm, hs, if_pos c]
    rw [if_neg hv0, e, dp (show posF 0 fw v + 1 > 0 by omega)]
    refine .inl ⟨(posF 0 fw v + 1, iv, ct, un, wk, en, mo, we, yd, md, dy, ho, mi, se, po, ()), rfl, rfl, fun h => h, fun _ => ?_, fun h => absurd rfl h⟩
    show posF 0 fw v + 1 ≠ 0
    omega
  · have hlt : posF 0 fw v = -1 := hp.2.2.2 (Int.not_le.1 fun q => c (hp.1.1 q))
    have : (if v = [] then (-1 : Int) else posF 0 ([] :: fw) v) = -1 := by
      by_cases hv0 : v = []
      · rw [if_pos hv0]
      · rw [if_neg hv0]
        show (if [] = v then (0 : Int) else posF (0 + 1) fw v) = _
        rw [if_neg fun q => hv0 q.symm, hs, if_neg c]
    rw [this, hlt]
    exact .inr ⟨_, _, rfl, rfl⟩
theorem part_same (name v : List UInt8) (hv : v.length ≤ 50000) : Part (f, iv, ct, un, wk, en, mo, we, yd, md, dy, ho, mi, se, po, ()) name (rule_part.f (f, iv, ct, un, wk, en, mo, we, yd, md, dy, ho, mi, se, po, ()) (mkS name) (mkS v)) (vokref4_put.f (f, iv, ct, un, wk, en, mo, we, yd, md, dy, ho, mi, se, po, ()) (mkS name) (mkS v)) := by
  by_cases h0 : name = [70, 82, 69, 81]
  · subst h0; exact part_FREQ f iv ct un wk en mo we yd md dy ho mi se po v hv
  by_cases h1 : name = [73, 78, 84, 69, 82, 86, 65, 76]
  · subst h1; exact part_INTERVAL f iv ct un wk en mo we yd md dy ho mi se po v hv
  by_cases h2 : name = [67, 79, 85, 78, 84]
  · subst h2; exact part_COUNT f iv ct un wk en mo we yd md dy ho mi se po v hv
  by_cases h3 : name = [85, 78, 84, 73, 76]
  · subst h3; exact part_UNTIL f iv ct un wk en mo we yd md dy ho mi se po v hv
  by_cases h4 : name = [66, 89, 68, 65, 89]
  · subst h4; exact part_BYDAY f iv ct un wk en mo we yd md dy ho mi se po v hv
  by_cases h5 : name = [87, 75, 83, 84]
  · subst h5; exact part_WKST f iv ct un wk en mo we yd md dy ho mi se po v hv
  by_cases h6 : name = [66, 89, 77, 79, 78, 84, 72]
  · subst h6; exact part_BYMONTH f iv ct un wk en mo we yd md dy ho mi se po v hv
  by_cases h7 : name = [66, 89, 87, 69, 69, 75, 78, 79]
  · subst h7; exact part_BYWEEKNO f iv ct un wk en mo we yd md dy ho mi se po v hv
  by_cases h8 : name = [66, 89, 89, 69, 65, 82, 68, 65, 89]
  · subst h8; exact part_BYYEARDAY f iv ct un wk en mo we yd md dy ho mi se po v hv
  by_cases h9 : name = [66, 89, 77, 79, 78, 84, 72, 68, 65, 89]
  · subst h9; exact part_BYMONTHDAY f iv ct un wk en mo we yd md dy ho mi se po v hv
  by_cases h10 : name = [66, 89, 72, 79, 85, 82]
  · subst h10; exact part_BYHOUR f iv ct un wk en mo we yd md dy ho mi se po v hv
  by_cases h11 : name = [66, 89, 77, 73, 78, 85, 84, 69]
  · subst h11; exact part_BYMINUTE f iv ct un wk en mo we yd md dy ho mi se po v hv
  by_cases h12 : name = [66, 89, 83, 69, 67, 79, 78, 68]
  · subst h12; exact part_BYSECOND f iv ct un wk en mo we yd md dy ho mi se po v hv
  by_cases h13 : name = [66, 89, 83, 69, 84, 80, 79, 83]
  · subst h13; exact part_BYSETPOS f iv ct un wk en mo we yd md dy ho mi se po v hv
  have e0 : (⟨#[70, 82, 69, 81]⟩ : ByteArray) = mkS [70, 82, 69, 81] := rfl
  have e1 : (⟨#[73, 78, 84, 69, 82, 86, 65, 76]⟩ : ByteArray) = mkS [73, 78, 84, 69, 82, 86, 65, 76] := rfl
  have e2 : (⟨#[67, 79, 85, 78, 84]⟩ : ByteArray) = mkS [67, 79, 85, 78, 84] := rfl
  have e3 : (⟨#[85, 78, 84, 73, 76]⟩ : ByteArray) = mkS [85, 78, 84, 73, 76] := rfl
  have e4 : (⟨#[66, 89, 68, 65, 89]⟩ : ByteArray) = mkS [66, 89, 68, 65, 89] := rfl
  have e5 : (⟨#[87, 75, 83, 84]⟩ : ByteArray) = mkS [87, 75, 83, 84] := rfl
  have e6 : (⟨#[66, 89, 77, 79, 78, 84, 72]⟩ : ByteArray) = mkS [66, 89, 77, 79, 78, 84, 72] := rfl
  have e7 : (⟨#[66, 89, 87, 69, 69, 75, 78, 79]⟩ : ByteArray) = mkS [66, 89, 87, 69, 69, 75, 78, 79] := rfl
  have e8 : (⟨#[66, 89, 89, 69, 65, 82, 68, 65, 89]⟩ : ByteArray) = mkS [66, 89, 89, 69, 65, 82, 68, 65, 89] := rfl
  have e9 : (⟨#[66, 89, 77, 79, 78, 84, 72, 68, 65, 89]⟩ : ByteArray) = mkS [66, 89, 77, 79, 78, 84, 72, 68, 65, 89] := rfl
  have e10 : (⟨#[66, 89, 72, 79, 85, 82]⟩ : ByteArray) = mkS [66, 89, 72, 79, 85, 82] := rfl
  have e11 : (⟨#[66, 89, 77, 73, 78, 85, 84, 69]⟩ : ByteArray) = mkS [66, 89, 77, 73, 78, 85, 84, 69] := rfl
  have e12 : (⟨#[66, 89, 83, 69, 67, 79, 78, 68]⟩ : ByteArray) = mkS [66, 89, 83, 69, 67, 79, 78, 68] := rfl
  have e13 : (⟨#[66, 89, 83, 69, 84, 80, 79, 83]⟩ : ByteArray) = mkS [66, 89, 83, 69, 84, 80, 79, 83] := rfl
  rw [rule_part.f_eq, vokref4_put.f_eq]
  simp only [beq_S, e0, e1, e2, e3, e4, e5, e6, e7, e8, e9, e10, e11, e12, e13, dm, dn h0, dn h1, dn h2, dn h3, dn h4, dn h5, dn h6, dn h7, dn h8, dn h9, dn h10, dn h11, dn h12, dn h13, cond_false]
  rw [rule_part.l1h_eq]
  exact .inr ⟨_, _, rfl, rfl⟩
end
end Go.GV.YtkkfgajlnpcpcaaGreatDoor
