/-
Part of the words that the laws of this seat are proved with: no statement of its own, no conditions.
-/
import Derived.Test.YtidgapgbnlcjgaaGreatDoorZ22
set_option linter.unusedVariables false
set_option linter.unusedSimpArgs false
namespace Go.GV.YtidgapgbnlcjgaaGreatDoor
open Go.Proofs
inductive Up where
 | fr (x : Int)
 | iv (x : Int)
 | ct (x : Int)
 | un (x : Int)
 | dy (x : List Dy)
 | wk (x : Int)
 | mo (x : List Int)
 | we (x : List Int)
 | yd (x : List Int)
 | md (x : List Int)
 | ho (x : List Int)
 | mi (x : List Int)
 | se (x : List Int)
 | po (x : List Int)
def Up.key : Up → List UInt8
 | .fr _ => [70, 82, 69, 81]
 | .iv _ => [73, 78, 84, 69, 82, 86, 65, 76]
 | .ct _ => [67, 79, 85, 78, 84]
 | .un _ => [85, 78, 84, 73, 76]
 | .dy _ => [66, 89, 68, 65, 89]
 | .wk _ => [87, 75, 83, 84]
 | .mo _ => [66, 89, 77, 79, 78, 84, 72]
 | .we _ => [66, 89, 87, 69, 69, 75, 78, 79]
 | .yd _ => [66, 89, 89, 69, 65, 82, 68, 65, 89]
 | .md _ => [66, 89, 77, 79, 78, 84, 72, 68, 65, 89]
 | .ho _ => [66, 89, 72, 79, 85, 82]
 | .mi _ => [66, 89, 77, 73, 78, 85, 84, 69]
 | .se _ => [66, 89, 83, 69, 67, 79, 78, 68]
 | .po _ => [66, 89, 83, 69, 84, 80, 79, 83]
def Up.ap : Up → Rl → Rl
 | .fr x, (_, r1, r2, r3, r4, r5, r6, r7, r8, r9, r10, r11, r12, r13, r14, ()) => (x, r1, r2, r3, r4, r5, r6, r7, r8, r9, r10, r11, r12, r13, r14, ())
 | .iv x, (r0, _, r2, r3, r4, r5, r6, r7, r8, r9, r10, r11, r12, r13, r14, ()) => (r0, x, r2, r3, r4, r5, r6, r7, r8, r9, r10, r11, r12, r13, r14, ())
 | .ct x, (r0, r1, _, r3, r4, r5, r6, r7, r8, r9, r10, r11, r12, r13, r14, ()) => (r0, r1, x, r3, r4, r5, r6, r7, r8, r9, r10, r11, r12, r13, r14, ())
 | .un x, (r0, r1, r2, _, r4, _, r6, r7, r8, r9, r10, r11, r12, r13, r14, ()) => (r0, r1, r2, x, r4, true, r6, r7, r8, r9, r10, r11, r12, r13, r14, ())
 | .dy x, (r0, r1, r2, r3, r4, r5, r6, r7, r8, r9, _, r11, r12, r13, r14, ()) => (r0, r1, r2, r3, r4, r5, r6, r7, r8, r9, x, r11, r12, r13, r14, ())
 | .wk x, (r0, r1, r2, r3, _, r5, r6, r7, r8, r9, r10, r11, r12, r13, r14, ()) => (r0, r1, r2, r3, x, r5, r6, r7, r8, r9, r10, r11, r12, r13, r14, ())
 | .mo x, (r0, r1, r2, r3, r4, r5, _, r7, r8, r9, r10, r11, r12, r13, r14, ()) => (r0, r1, r2, r3, r4, r5, x, r7, r8, r9, r10, r11, r12, r13, r14, ())
 | .we x, (r0, r1, r2, r3, r4, r5, r6, _, r8, r9, r10, r11, r12, r13, r14, ()) => (r0, r1, r2, r3, r4, r5, r6, x, r8, r9, r10, r11, r12, r13, r14, ())
 | .yd x, (r0, r1, r2, r3, r4, r5, r6, r7, _, r9, r10, r11, r12, r13, r14, ()) => (r0, r1, r2, r3, r4, r5, r6, r7, x, r9, r10, r11, r12, r13, r14, ())
 | .md x, (r0, r1, r2, r3, r4, r5, r6, r7, r8, _, r10, r11, r12, r13, r14, ()) => (r0, r1, r2, r3, r4, r5, r6, r7, r8, x, r10, r11, r12, r13, r14, ())
 | .ho x, (r0, r1, r2, r3, r4, r5, r6, r7, r8, r9, r10, _, r12, r13, r14, ()) => (r0, r1, r2, r3, r4, r5, r6, r7, r8, r9, r10, x, r12, r13, r14, ())
 | .mi x, (r0, r1, r2, r3, r4, r5, r6, r7, r8, r9, r10, r11, _, r13, r14, ()) => (r0, r1, r2, r3, r4, r5, r6, r7, r8, r9, r10, r11, x, r13, r14, ())
 | .se x, (r0, r1, r2, r3, r4, r5, r6, r7, r8, r9, r10, r11, r12, _, r14, ()) => (r0, r1, r2, r3, r4, r5, r6, r7, r8, r9, r10, r11, r12, x, r14, ())
 | .po x, (r0, r1, r2, r3, r4, r5, r6, r7, r8, r9, r10, r11, r12, r13, _, ()) => (r0, r1, r2, r3, r4, r5, r6, r7, r8, r9, r10, r11, r12, r13, x, ())
def tN (name v : List UInt8) : Prop := (∃ u : Up, u.key = name ∧ ∀ r : Rl, dA.f r (mkS name) (mkS v) = some (true, u.ap r, ())) ∨ (∀ r : Rl, ∃ r1, dA.f r (mkS name) (mkS v) = some (false, r1, ()))
theorem dK {α : Type} (name v : List UInt8) (hv : v.length ≤ 50000) (X : Option α) (g : α → Bool) (u : α → Up) (hk : ∀ a, (u a).key = name)
  (h : ∀ r : Rl, dA.f r (mkS name) (mkS v) = X.bind fun t => some (g t, (u t).ap r, ())) : tN name v := by
 cases X with
 | none =>
  have h0 := h zR
  rcases nD1 0 0 0 0 0 false [] [] [] [] [] [] [] [] [] name v hv with ⟨r', e, _⟩ | ⟨r1, r2, e, _⟩
  ·rw [show zR = (0, 0, 0, 0, 0, false, [], [], [], [], [], [], [], [], [], ()) from rfl, e] at h0
   cases h0
  ·rw [show zR = (0, 0, 0, 0, 0, false, [], [], [], [], [], [], [], [], [], ()) from rfl, e] at h0
   cases h0
 | some a =>
  cases hg : g a with
  | true => exact .inl ⟨u a, hk a, fun r => by rw [h r, qG2, hg]⟩
  | false => exact .inr fun r => ⟨(u a).ap r, by rw [h r, qG2, hg]⟩
theorem mI1 (v : List UInt8) (r : Rl) : dA.f r (mkS [70, 82, 69, 81]) (mkS v) = ((kA.f (fw.map mkS) (mkS v))).bind fun t => some ((fun t => decide (w6 (t.1 + 1) > 0)) t, (show Up from (fun t => .fr (w6 (t.1 + 1))) t).ap r, ()) := by
 obtain ⟨r0, r1, r2, r3, r4, r5, r6, r7, r8, r9, r10, r11, r12, r13, r14, ⟨⟩⟩ := r
 rw [dA.f_eq]
 simp (disch := decide) only [kE, nm0, nm1, nm2, nm3, nm4, nm5, nm6, nm7, nm8, nm9, nm10, nm11, nm12, nm13, dm, dp, dn, cond_true, cond_false]
 rw [iB1]
 rfl
theorem uA2 (v : List UInt8) (hv : v.length ≤ 50000) : tN [70, 82, 69, 81] v := dK [70, 82, 69, 81] v hv ((kA.f (fw.map mkS) (mkS v))) (fun t => decide (w6 (t.1 + 1) > 0)) (fun t => .fr (w6 (t.1 + 1))) (fun _ => rfl) (mI1 v)
theorem pR (v : List UInt8) (r : Rl) : dA.f r (mkS [73, 78, 84, 69, 82, 86, 65, 76]) (mkS v) = (uD.f (mkS v)).bind fun t => some ((fun t => t.2.1) t, (show Up from (fun t => .iv t.1) t).ap r, ()) := by
 obtain ⟨r0, r1, r2, r3, r4, r5, r6, r7, r8, r9, r10, r11, r12, r13, r14, ⟨⟩⟩ := r
 rw [dA.f_eq]
 simp (disch := decide) only [kE, nm0, nm1, nm2, nm3, nm4, nm5, nm6, nm7, nm8, nm9, nm10, nm11, nm12, nm13, dm, dp, dn, cond_true, cond_false]
 rfl
theorem zG1 (v : List UInt8) (hv : v.length ≤ 50000) : tN [73, 78, 84, 69, 82, 86, 65, 76] v := dK [73, 78, 84, 69, 82, 86, 65, 76] v hv (uD.f (mkS v)) (fun t => t.2.1) (fun t => .iv t.1) (fun _ => rfl) (pR v)
theorem yE1 (v : List UInt8) (r : Rl) : dA.f r (mkS [67, 79, 85, 78, 84]) (mkS v) = (uD.f (mkS v)).bind fun t => some ((fun t => t.2.1) t, (show Up from (fun t => .ct t.1) t).ap r, ()) := by
 obtain ⟨r0, r1, r2, r3, r4, r5, r6, r7, r8, r9, r10, r11, r12, r13, r14, ⟨⟩⟩ := r
 rw [dA.f_eq]
 simp (disch := decide) only [kE, nm0, nm1, nm2, nm3, nm4, nm5, nm6, nm7, nm8, nm9, nm10, nm11, nm12, nm13, dm, dp, dn, cond_true, cond_false]
 rfl
theorem fW1 (v : List UInt8) (hv : v.length ≤ 50000) : tN [67, 79, 85, 78, 84] v := dK [67, 79, 85, 78, 84] v hv (uD.f (mkS v)) (fun t => t.2.1) (fun t => .ct t.1) (fun _ => rfl) (yE1 v)
theorem cF1 (v : List UInt8) (r : Rl) : dA.f r (mkS [85, 78, 84, 73, 76]) (mkS v) = (bB.f (mkS v)).bind fun t => some ((fun t => decide (t.2.1 = 0)) t, (show Up from (fun t => .un t.1) t).ap r, ()) := by
 obtain ⟨r0, r1, r2, r3, r4, r5, r6, r7, r8, r9, r10, r11, r12, r13, r14, ⟨⟩⟩ := r
 rw [dA.f_eq]
 simp (disch := decide) only [kE, nm0, nm1, nm2, nm3, nm4, nm5, nm6, nm7, nm8, nm9, nm10, nm11, nm12, nm13, dm, dp, dn, cond_true, cond_false]
 rfl
theorem wT1 (v : List UInt8) (hv : v.length ≤ 50000) : tN [85, 78, 84, 73, 76] v := dK [85, 78, 84, 73, 76] v hv (bB.f (mkS v)) (fun t => decide (t.2.1 = 0)) (fun t => .un t.1) (fun _ => rfl) (cF1 v)
theorem vE1 (v : List UInt8) (r : Rl) : dA.f r (mkS [66, 89, 68, 65, 89]) (mkS v) = (lC.f (mkS v)).bind fun t => some ((fun t => t.2.1) t, (show Up from (fun t => .dy t.1) t).ap r, ()) := by
 obtain ⟨r0, r1, r2, r3, r4, r5, r6, r7, r8, r9, r10, r11, r12, r13, r14, ⟨⟩⟩ := r
 rw [dA.f_eq]
 simp (disch := decide) only [kE, nm0, nm1, nm2, nm3, nm4, nm5, nm6, nm7, nm8, nm9, nm10, nm11, nm12, nm13, dm, dp, dn, cond_true, cond_false]
 rfl
theorem mU1 (v : List UInt8) (hv : v.length ≤ 50000) : tN [66, 89, 68, 65, 89] v := dK [66, 89, 68, 65, 89] v hv (lC.f (mkS v)) (fun t => t.2.1) (fun t => .dy t.1) (fun _ => rfl) (vE1 v)
theorem dI1 (v : List UInt8) (r : Rl) : dA.f r (mkS [87, 75, 83, 84]) (mkS v) = ((kA.f (wd.map mkS) (mkS v))).bind fun t => some ((fun t => decide (t.1 ≥ 0)) t, (show Up from (fun t => .wk t.1) t).ap r, ()) := by
 obtain ⟨r0, r1, r2, r3, r4, r5, r6, r7, r8, r9, r10, r11, r12, r13, r14, ⟨⟩⟩ := r
 rw [dA.f_eq]
 simp (disch := decide) only [kE, nm0, nm1, nm2, nm3, nm4, nm5, nm6, nm7, nm8, nm9, nm10, nm11, nm12, nm13, dm, dp, dn, cond_true, cond_false]
 rw [uH]
 rfl
theorem sY1 (v : List UInt8) (hv : v.length ≤ 50000) : tN [87, 75, 83, 84] v := dK [87, 75, 83, 84] v hv ((kA.f (wd.map mkS) (mkS v))) (fun t => decide (t.1 ≥ 0)) (fun t => .wk t.1) (fun _ => rfl) (dI1 v)
theorem zV (v : List UInt8) (r : Rl) : dA.f r (mkS [66, 89, 77, 79, 78, 84, 72]) (mkS v) = (uB.f (mkS v)).bind fun t => some ((fun t => t.2.1) t, (show Up from (fun t => .mo t.1) t).ap r, ()) := by
 obtain ⟨r0, r1, r2, r3, r4, r5, r6, r7, r8, r9, r10, r11, r12, r13, r14, ⟨⟩⟩ := r
 rw [dA.f_eq]
 simp (disch := decide) only [kE, nm0, nm1, nm2, nm3, nm4, nm5, nm6, nm7, nm8, nm9, nm10, nm11, nm12, nm13, dm, dp, dn, cond_true, cond_false]
 rw [dA.l1_eq]
 rfl
theorem fL1 (v : List UInt8) (hv : v.length ≤ 50000) : tN [66, 89, 77, 79, 78, 84, 72] v := dK [66, 89, 77, 79, 78, 84, 72] v hv (uB.f (mkS v)) (fun t => t.2.1) (fun t => .mo t.1) (fun _ => rfl) (zV v)
theorem qS (v : List UInt8) (r : Rl) : dA.f r (mkS [66, 89, 87, 69, 69, 75, 78, 79]) (mkS v) = (uB.f (mkS v)).bind fun t => some ((fun t => t.2.1) t, (show Up from (fun t => .we t.1) t).ap r, ()) := by
 obtain ⟨r0, r1, r2, r3, r4, r5, r6, r7, r8, r9, r10, r11, r12, r13, r14, ⟨⟩⟩ := r
 rw [dA.f_eq]
 simp (disch := decide) only [kE, nm0, nm1, nm2, nm3, nm4, nm5, nm6, nm7, nm8, nm9, nm10, nm11, nm12, nm13, dm, dp, dn, cond_true, cond_false]
 rw [dA.l1a_eq]
 rfl
theorem qH1 (v : List UInt8) (hv : v.length ≤ 50000) : tN [66, 89, 87, 69, 69, 75, 78, 79] v := dK [66, 89, 87, 69, 69, 75, 78, 79] v hv (uB.f (mkS v)) (fun t => t.2.1) (fun t => .we t.1) (fun _ => rfl) (qS v)
theorem qP (v : List UInt8) (r : Rl) : dA.f r (mkS [66, 89, 89, 69, 65, 82, 68, 65, 89]) (mkS v) = (uB.f (mkS v)).bind fun t => some ((fun t => t.2.1) t, (show Up from (fun t => .yd t.1) t).ap r, ()) := by
 obtain ⟨r0, r1, r2, r3, r4, r5, r6, r7, r8, r9, r10, r11, r12, r13, r14, ⟨⟩⟩ := r
 rw [dA.f_eq]
 simp (disch := decide) only [kE, nm0, nm1, nm2, nm3, nm4, nm5, nm6, nm7, nm8, nm9, nm10, nm11, nm12, nm13, dm, dp, dn, cond_true, cond_false]
 rw [dA.l1b_eq]
 rfl
theorem kD1 (v : List UInt8) (hv : v.length ≤ 50000) : tN [66, 89, 89, 69, 65, 82, 68, 65, 89] v := dK [66, 89, 89, 69, 65, 82, 68, 65, 89] v hv (uB.f (mkS v)) (fun t => t.2.1) (fun t => .yd t.1) (fun _ => rfl) (qP v)
theorem wN (v : List UInt8) (r : Rl) : dA.f r (mkS [66, 89, 77, 79, 78, 84, 72, 68, 65, 89]) (mkS v) = (uB.f (mkS v)).bind fun t => some ((fun t => t.2.1) t, (show Up from (fun t => .md t.1) t).ap r, ()) := by
 obtain ⟨r0, r1, r2, r3, r4, r5, r6, r7, r8, r9, r10, r11, r12, r13, r14, ⟨⟩⟩ := r
 rw [dA.f_eq]
 simp (disch := decide) only [kE, nm0, nm1, nm2, nm3, nm4, nm5, nm6, nm7, nm8, nm9, nm10, nm11, nm12, nm13, dm, dp, dn, cond_true, cond_false]
 rw [dA.l1c_eq]
 rfl
theorem cA1 (v : List UInt8) (hv : v.length ≤ 50000) : tN [66, 89, 77, 79, 78, 84, 72, 68, 65, 89] v := dK [66, 89, 77, 79, 78, 84, 72, 68, 65, 89] v hv (uB.f (mkS v)) (fun t => t.2.1) (fun t => .md t.1) (fun _ => rfl) (wN v)
theorem bZ (v : List UInt8) (r : Rl) : dA.f r (mkS [66, 89, 72, 79, 85, 82]) (mkS v) = (uB.f (mkS v)).bind fun t => some ((fun t => t.2.1) t, (show Up from (fun t => .ho t.1) t).ap r, ()) := by
 obtain ⟨r0, r1, r2, r3, r4, r5, r6, r7, r8, r9, r10, r11, r12, r13, r14, ⟨⟩⟩ := r
 rw [dA.f_eq]
 simp (disch := decide) only [kE, nm0, nm1, nm2, nm3, nm4, nm5, nm6, nm7, nm8, nm9, nm10, nm11, nm12, nm13, dm, dp, dn, cond_true, cond_false]
 rw [dA.l1d_eq]
 rfl
theorem eO1 (v : List UInt8) (hv : v.length ≤ 50000) : tN [66, 89, 72, 79, 85, 82] v := dK [66, 89, 72, 79, 85, 82] v hv (uB.f (mkS v)) (fun t => t.2.1) (fun t => .ho t.1) (fun _ => rfl) (bZ v)
theorem oS (v : List UInt8) (r : Rl) : dA.f r (mkS [66, 89, 77, 73, 78, 85, 84, 69]) (mkS v) = (uB.f (mkS v)).bind fun t => some ((fun t => t.2.1) t, (show Up from (fun t => .mi t.1) t).ap r, ()) := by
 obtain ⟨r0, r1, r2, r3, r4, r5, r6, r7, r8, r9, r10, r11, r12, r13, r14, ⟨⟩⟩ := r
 rw [dA.f_eq]
 simp (disch := decide) only [kE, nm0, nm1, nm2, nm3, nm4, nm5, nm6, nm7, nm8, nm9, nm10, nm11, nm12, nm13, dm, dp, dn, cond_true, cond_false]
 rw [dA.l1e_eq]
 rfl
theorem bI1 (v : List UInt8) (hv : v.length ≤ 50000) : tN [66, 89, 77, 73, 78, 85, 84, 69] v := dK [66, 89, 77, 73, 78, 85, 84, 69] v hv (uB.f (mkS v)) (fun t => t.2.1) (fun t => .mi t.1) (fun _ => rfl) (oS v)
theorem lS (v : List UInt8) (r : Rl) : dA.f r (mkS [66, 89, 83, 69, 67, 79, 78, 68]) (mkS v) = (uB.f (mkS v)).bind fun t => some ((fun t => t.2.1) t, (show Up from (fun t => .se t.1) t).ap r, ()) := by
 obtain ⟨r0, r1, r2, r3, r4, r5, r6, r7, r8, r9, r10, r11, r12, r13, r14, ⟨⟩⟩ := r
 rw [dA.f_eq]
 simp (disch := decide) only [kE, nm0, nm1, nm2, nm3, nm4, nm5, nm6, nm7, nm8, nm9, nm10, nm11, nm12, nm13, dm, dp, dn, cond_true, cond_false]
 rw [dA.l1f_eq]
 rfl
theorem kG1 (v : List UInt8) (hv : v.length ≤ 50000) : tN [66, 89, 83, 69, 67, 79, 78, 68] v := dK [66, 89, 83, 69, 67, 79, 78, 68] v hv (uB.f (mkS v)) (fun t => t.2.1) (fun t => .se t.1) (fun _ => rfl) (lS v)
theorem nS (v : List UInt8) (r : Rl) : dA.f r (mkS [66, 89, 83, 69, 84, 80, 79, 83]) (mkS v) = (uB.f (mkS v)).bind fun t => some ((fun t => t.2.1) t, (show Up from (fun t => .po t.1) t).ap r, ()) := by
 obtain ⟨r0, r1, r2, r3, r4, r5, r6, r7, r8, r9, r10, r11, r12, r13, r14, ⟨⟩⟩ := r
 rw [dA.f_eq]
 simp (disch := decide) only [kE, nm0, nm1, nm2, nm3, nm4, nm5, nm6, nm7, nm8, nm9, nm10, nm11, nm12, nm13, dm, dp, dn, cond_true, cond_false]
 rw [dA.l1g_eq]
 rfl
theorem dG1 (v : List UInt8) (hv : v.length ≤ 50000) : tN [66, 89, 83, 69, 84, 80, 79, 83] v := dK [66, 89, 83, 69, 84, 80, 79, 83] v hv (uB.f (mkS v)) (fun t => t.2.1) (fun t => .po t.1) (fun _ => rfl) (nS v)
theorem vB2 (name v : List UInt8) (hv : v.length ≤ 50000) : tN name v := by
 by_cases h0 : name = [70, 82, 69, 81]
 ·subst h0; exact uA2 v hv
 by_cases h1 : name = [73, 78, 84, 69, 82, 86, 65, 76]
 ·subst h1; exact zG1 v hv
 by_cases h2 : name = [67, 79, 85, 78, 84]
 ·subst h2; exact fW1 v hv
 by_cases h3 : name = [85, 78, 84, 73, 76]
 ·subst h3; exact wT1 v hv
 by_cases h4 : name = [66, 89, 68, 65, 89]
 ·subst h4; exact mU1 v hv
 by_cases h5 : name = [87, 75, 83, 84]
 ·subst h5; exact sY1 v hv
 by_cases h6 : name = [66, 89, 77, 79, 78, 84, 72]
 ·subst h6; exact fL1 v hv
 by_cases h7 : name = [66, 89, 87, 69, 69, 75, 78, 79]
 ·subst h7; exact qH1 v hv
 by_cases h8 : name = [66, 89, 89, 69, 65, 82, 68, 65, 89]
 ·subst h8; exact kD1 v hv
 by_cases h9 : name = [66, 89, 77, 79, 78, 84, 72, 68, 65, 89]
 ·subst h9; exact cA1 v hv
 by_cases h10 : name = [66, 89, 72, 79, 85, 82]
 ·subst h10; exact eO1 v hv
 by_cases h11 : name = [66, 89, 77, 73, 78, 85, 84, 69]
 ·subst h11; exact bI1 v hv
 by_cases h12 : name = [66, 89, 83, 69, 67, 79, 78, 68]
 ·subst h12; exact kG1 v hv
 by_cases h13 : name = [66, 89, 83, 69, 84, 80, 79, 83]
 ·subst h13; exact dG1 v hv
 refine .inr fun r => ?_
 rw [dA.f_eq]
 simp only [kE, nm0, nm1, nm2, nm3, nm4, nm5, nm6, nm7, nm8, nm9, nm10, nm11, nm12, nm13, dm, dn h0, dn h1, dn h2, dn h3, dn h4, dn h5, dn h6, dn h7, dn h8, dn h9, dn h10, dn h11, dn h12, dn h13, cond_false]
 rw [dA.l1h_eq]
 exact ⟨_, rfl⟩
def Good (s : List UInt8) (u : Up) : Prop := ∃ b, s = u.key ++ 61 :: b ∧ (61 : UInt8) ∉ u.key ∧ ∀ r : Rl, dA.f r (mkS u.key) (mkS b) = some (true, u.ap r, ())
def Bad (s : List UInt8) : Prop := ∀ a b, s = a ++ 61 :: b → (61 : UInt8) ∉ a → ∀ r : Rl, ∃ r1, dA.f r (mkS a) (mkS b) = some (false, r1, ())
theorem aQ {c : UInt8} : ∀ {a a' b b' : List UInt8}, a ++ c :: b = a' ++ c :: b' → c ∉ a → c ∉ a' → a = a' ∧ b = b'
 | [], [], b, b', h, _, _ => by simpa using h
 | [], x :: a', b, b', h, _, h2 => by simp at h; exact absurd (h.1 ▸ uG2 ..) h2
 | x :: a, [], b, b', h, h1, _ => by simp at h; exact absurd (h.1 ▸ uG2 ..) h1
 | x :: a, y :: a', b, b', h, h1, h2 => by
  simp at h
  obtain ⟨e, h⟩ := h
  obtain ⟨e1, e2⟩ := aQ h (fun q => h1 (tG2 _ q)) (fun q => h2 (tG2 _ q))
  exact ⟨by rw [e, e1], e2⟩
theorem jA2 (s : List UInt8) (hs : s.length ≤ 50000) : (∃ u, Good s u) ∨ Bad s := by
 rcases oK (c := (61 : UInt8)) (l := s) with hno | ⟨a, b, hab, ha⟩
 ·exact .inr fun a b e _ => absurd (by rw [e]; simp) hno
 ·have hb : b.length ≤ 50000 := by rw [hab] at hs; simp at hs; omega
  rcases vB2 a b hb with ⟨u, hk, h⟩ | h
  ·subst hk
   exact .inl ⟨u, b, hab, ha, h⟩
  ·refine .inr fun a' b' e ha' => ?_
   obtain ⟨e1, e2⟩ := aQ (hab ▸ e) ha ha'
   subst e1 e2
   exact h
theorem wU1 {s : List UInt8} {u : Up} (h : Good s u) (g : Bad s) : False := by
 obtain ⟨b, e, hn, h⟩ := h
 obtain ⟨r1, h1⟩ := g _ _ e hn zR
 rw [h zR] at h1
 cases h1
theorem dO1 {s : List UInt8} {u w : Up} (h : Good s u) (g : Good s w) : u.key = w.key ∧ ∀ r : Rl, u.ap r = w.ap r := by
 obtain ⟨b, e, hn, h⟩ := h
 obtain ⟨b', e', hn', g⟩ := g
 obtain ⟨e1, e2⟩ := aQ (e ▸ e') hn hn'
 refine ⟨e1, fun r => ?_⟩
 subst e2
 have := h r
 rw [e1, g r] at this
 exact (Prod.mk.inj (Prod.mk.inj (nH2 this)).2).1.symm
def keys (us : List Up) : List (List UInt8) := us.map Up.key
def fI (r : Rl) (us : List Up) : Rl := us.foldl (fun r u => u.ap r) r
noncomputable def fin (r : Rl) (ms : List (List UInt8)) : Option (Rl × Int × Int × Unit) :=
 if FREQ ∈ ms then (pA.f r).bind fun t => bif !t.1 then some (zR, 0, 1, ()) else some (r, 0, 0, ()) else some (zR, 0, 7, ())
theorem vD1 (p : List (List UInt8)) (hp : p.length ≤ 10000) (hpl : ∀ s ∈ p, s.length ≤ 5000) : ∀ (k i : Nat) (r : Rl) (ms : List (List UInt8)), p.length - i = k → i ≤ p.length → ms.length ≤ i →
  (∀ us, All2 Good (p.drop i) us → (∀ u ∈ us, u.key ∉ ms) → (keys us).Nodup → PA p i r ms = fin (fI r us) (ms ++ keys us)) ∧
  ((¬ ∃ us, All2 Good (p.drop i) us ∧ (∀ u ∈ us, u.key ∉ ms) ∧ (keys us).Nodup) → ∃ n : Nat, PA p i r ms = some (zR, (n : Int), 4, ())) := by
 have hlim : vC = 17179869184 := rfl
 have hml : (p.map mkS).length = p.length := yG2 ..
 intro k
 induction k with
 | zero =>
  intro i r ms hk hil hms
  have e : i = p.length := by omega
  subst e
  rw [gI2]
  refine ⟨fun us hus _ _ => ?_, fun h => absurd ⟨[], trivial, by simp, by simp [keys]⟩ h⟩
  cases us with
  | cons _ _ => exact hus.elim
  | nil =>
   have hC : oB.f (ms.map mkS) ⟨#[70, 82, 69, 81]⟩ = some (decide (FREQ ∈ ms), ()) := yI ms FREQ (by omega)
   have hk0 : ms ++ keys [] = ms := by simp [keys]
   rw [hk0]
   unfold PA
   rw [qA.l1a_eq]
   simp (disch := omega) only [ss, hml, hC]
   unfold fin
   by_cases c : FREQ ∈ ms
   ·rw [dp c, if_pos c]
    rfl
   ·rw [dn c, if_neg c]
    rfl
 | succ k ih =>
  intro i r ms hk hil hms
  have hlt : i < p.length := by omega
  have hg := gm p i hlt
  have hsl := hpl _ (iD [] hlt)
  have pt : ∀ x9 : ByteArray, qA.l2a i x9 (p.map mkS) p.length i true 0 0 0 0 0 false r.1 r.2.1 r.2.2.1 r.2.2.2.1 r.2.2.2.2.1 r.2.2.2.2.2.1 r.2.2.2.2.2.2.1 r.2.2.2.2.2.2.2.1 r.2.2.2.2.2.2.2.2.1 r.2.2.2.2.2.2.2.2.2.1 r.2.2.2.2.2.2.2.2.2.2.1 r.2.2.2.2.2.2.2.2.2.2.2.1 r.2.2.2.2.2.2.2.2.2.2.2.2.1 r.2.2.2.2.2.2.2.2.2.2.2.2.2.1 r.2.2.2.2.2.2.2.2.2.2.2.2.2.2.1 (ms.map mkS) = some (zR, (i : Int), 4, ()) := fun x9 => by rw [qA.l2a_eq, cond_true]; rfl
  rw [iC [] hlt]
  generalize hs : p.getD i [] = s at hg hsl
  have uQ : PA p i r ms = PA p i r ms := rfl
  unfold PA at uQ
  rcases oK (c := (61 : UInt8)) (l := s) with hno | ⟨a, b, hab, ha⟩
  ·have hc : kD.f (mkS s) ⟨#[61]⟩ = some (mkS s, mkS [], false, ()) := nB1 (s := mkS s) (c := 61) hno
   refine ⟨fun us hus _ _ => ?_, fun _ => ⟨i, ?_⟩⟩
   ·cases us with
    | nil => exact hus.elim
    | cons u us =>
     obtain ⟨b, e, _⟩ := hus.1
     exact absurd (by rw [e]; simp) hno
   ·unfold PA
    rw [qA.l1a_eq]
    simp (disch := omega) only [ss, hml, hg]
    rw [hc]
    simp (disch := omega) only [ss, pt]
  ·have hab2 : a.length + b.length ≤ 5000 := by rw [hab] at hsl; simp at hsl; omega
   have hc : kD.f (mkS s) ⟨#[61]⟩ = some (mkS a, mkS b, true, ()) := by rw [hab]; exact qT (c := 61) (by omega) ha
   have hK := yI ms a (by omega)
   have gk : ∀ u, Good s u → u.key = a := fun u h => by
    obtain ⟨b', e, hn, _⟩ := h
    exact (aQ (hab ▸ e) ha hn).1.symm
   by_cases c : a ∈ ms
   ·refine ⟨fun us hus hm _ => ?_, fun _ => ⟨i, ?_⟩⟩
    ·cases us with
     | nil => exact hus.elim
     | cons u us => exact absurd ((gk u hus.1).symm ▸ c) (hm u (by simp))
    ·unfold PA
     rw [qA.l1a_eq]
     simp (disch := omega) only [ss, hml, hg]
     rw [hc]
     simp (disch := omega) only [ss, hK, dp c]
     exact pt _
   ·have step : ∀ x, PA p i r ms = x ↔ ((dA.f (r.1, r.2.1, r.2.2.1, r.2.2.2.1, r.2.2.2.2.1, r.2.2.2.2.2.1, r.2.2.2.2.2.2.1, r.2.2.2.2.2.2.2.1, r.2.2.2.2.2.2.2.2.1, r.2.2.2.2.2.2.2.2.2.1, r.2.2.2.2.2.2.2.2.2.2.1, r.2.2.2.2.2.2.2.2.2.2.2.1, r.2.2.2.2.2.2.2.2.2.2.2.2.1, r.2.2.2.2.2.2.2.2.2.2.2.2.2.1, r.2.2.2.2.2.2.2.2.2.2.2.2.2.2.1, ()) (mkS a) (mkS b)).bind fun t9 => bif !t9.1 then (some (zR, (i : Int), 4, ())) else PA p (i + 1) t9.2.1 (ms ++ [a])) = x := fun x => by
     have e1 : ms.map mkS ++ [mkS a] = (ms ++ [a]).map mkS := by simp
     have : PA p i r ms = ((dA.f (r.1, r.2.1, r.2.2.1, r.2.2.2.1, r.2.2.2.2.1, r.2.2.2.2.2.1, r.2.2.2.2.2.2.1, r.2.2.2.2.2.2.2.1, r.2.2.2.2.2.2.2.2.1, r.2.2.2.2.2.2.2.2.2.1, r.2.2.2.2.2.2.2.2.2.2.1, r.2.2.2.2.2.2.2.2.2.2.2.1, r.2.2.2.2.2.2.2.2.2.2.2.2.1, r.2.2.2.2.2.2.2.2.2.2.2.2.2.1, r.2.2.2.2.2.2.2.2.2.2.2.2.2.2.1, ()) (mkS a) (mkS b)).bind fun t9 => bif !t9.1 then (some (zR, (i : Int), 4, ())) else PA p (i + 1) t9.2.1 (ms ++ [a])) := by
      unfold PA
      rw [qA.l1a_eq]
      simp (disch := omega) only [ss, hml, hg]
      rw [hc]
      simp (disch := omega) only [ss, hK, dn c]
      congr 1
      funext t9
      rw [qA.l2a_eq]
      cases t9.1 with
      | false => rfl
      | true =>
       simp (disch := omega) only [ss, yG2, wG2, hlim]
       rw [e1]
       rfl
     rw [this]
    rcases jA2 s (by omega) with ⟨u, hu⟩ | hbad
    ·have hk' := gk u hu
     obtain ⟨b', e, hn, hu'⟩ := id hu
     have e2 := (aQ (hab ▸ e) ha hn).2
     subst e2
     have hpart : dA.f (r.1, r.2.1, r.2.2.1, r.2.2.2.1, r.2.2.2.2.1, r.2.2.2.2.2.1, r.2.2.2.2.2.2.1, r.2.2.2.2.2.2.2.1, r.2.2.2.2.2.2.2.2.1, r.2.2.2.2.2.2.2.2.2.1, r.2.2.2.2.2.2.2.2.2.2.1, r.2.2.2.2.2.2.2.2.2.2.2.1, r.2.2.2.2.2.2.2.2.2.2.2.2.1, r.2.2.2.2.2.2.2.2.2.2.2.2.2.1, r.2.2.2.2.2.2.2.2.2.2.2.2.2.2.1, ()) (mkS a) (mkS b) = some (true, u.ap r, ()) := by
      rw [← hk']
      exact hu' r
     have go : PA p i r ms = PA p (i + 1) (u.ap r) (ms ++ [a]) := (step _).2 (by rw [hpart]; rfl)
     obtain ⟨n1, n2⟩ := ih (i + 1) (u.ap r) (ms ++ [a]) (by omega) (by omega) (by simp; omega)
     refine ⟨fun us hus hm hnd => ?_, fun h => ?_⟩
     ·cases us with
      | nil => exact hus.elim
      | cons w us =>
       obtain ⟨ew, ef⟩ := dO1 hus.1 hu
       have hnd' : w.key ∉ keys us ∧ (keys us).Nodup := gJ2.1 hnd
       have := n1 us hus.2 (fun v hv q => by
        rcases xG2.1 q with q | q
        ·exact hm v (tG2 _ hv) q
        ·rw [qH2] at q
         exact hnd'.1 (by rw [ew, hk', ← q]; exact gH2.2 ⟨v, hv, rfl⟩)) hnd'.2
       rw [go, this, hH2]
       show fin (fI (u.ap r) us) (ms ++ ([a] ++ keys us)) = fin (fI (w.ap r) us) (ms ++ (w.key :: keys us))
       rw [ew, hk', ef r]
       rfl
     ·rw [go]
      refine n2 fun ⟨us, h1, h2, h3⟩ => h ⟨u :: us, ⟨hu, h1⟩, ?_, ?_⟩
      ·intro v hv q
       rcases sG2.1 hv with e | hv
       ·subst e
        exact c (hk' ▸ q)
       ·exact h2 v hv (jH2 _ q)
      ·refine gJ2.2 ⟨fun q => ?_, h3⟩
       obtain ⟨v, hv, e⟩ := gH2.1 q
       exact h2 v hv (by rw [e, hk']; simp)
    ·refine ⟨fun us hus _ _ => ?_, fun _ => ⟨i, ?_⟩⟩
     ·cases us with
      | nil => exact hus.elim
      | cons u us => exact (wU1 hus.1 hbad).elim
     ·obtain ⟨r1, h1⟩ := hbad a b hab ha r
      refine (step _).2 ?_
      rw [show dA.f (r.1, r.2.1, r.2.2.1, r.2.2.2.1, r.2.2.2.2.1, r.2.2.2.2.2.1, r.2.2.2.2.2.2.1, r.2.2.2.2.2.2.2.1, r.2.2.2.2.2.2.2.2.1, r.2.2.2.2.2.2.2.2.2.1, r.2.2.2.2.2.2.2.2.2.2.1, r.2.2.2.2.2.2.2.2.2.2.2.1, r.2.2.2.2.2.2.2.2.2.2.2.2.1, r.2.2.2.2.2.2.2.2.2.2.2.2.2.1, r.2.2.2.2.2.2.2.2.2.2.2.2.2.2.1, ()) (mkS a) (mkS b) = some (false, r1, ()) from h1]
      rfl
def jn (c : UInt8) : List (List UInt8) → List UInt8
 | [] => []
 | [a] => a
 | a :: b :: l => a ++ c :: jn c (b :: l)
theorem kV (c : UInt8) : ∀ (l : List (List UInt8)), l ≠ [] → (∀ s ∈ l, c ∉ s) → segs c (jn c l) = l
 | [], h, _ => absurd rfl h
 | [n], _, h => eI (h n (by simp))
 | n :: m :: l, _, h => by
  show segs c (n ++ c :: jn c (m :: l)) = _
  rw [jI (h n (by simp)), kV c (m :: l) (by simp) fun s hs => h s (tG2 _ hs)]
def tot : List (List UInt8) → Nat
 | [] => 0
 | a :: l => a.length + tot l
theorem xQ1 (c : UInt8) : ∀ (l : List (List UInt8)), l ≠ [] → (jn c l).length + 1 = tot l + l.length
 | [], h => absurd rfl h
 | [n], _ => by simp [jn, tot]
 | n :: m :: l, _ => by
  have := xQ1 c (m :: l) (by simp)
  show (n ++ c :: jn c (m :: l)).length + 1 = n.length + tot (m :: l) + _
  rw [pG2, vG2, vG2]
  omega
theorem zQ1 (c : UInt8) : ∀ (l : List (List UInt8)), (jn c l).length ≤ tot l + l.length
 | [] => aH2 _
 | a :: l => by have := xQ1 c (a :: l) (by simp); omega
theorem eqI (a : List Int) (ha : a.length ≤ 1000000) : lA.f a a = some (true, ()) := by
 have key : ∀ (k i : Nat), a.length - i = k → i ≤ a.length → lA.l1 a a a.length i = some (true, ()) := by
  intro k
  induction k with
  | zero =>
   intro i hk hia
   rw [lA.l1_eq]
   simp (disch := omega) only [ss]
  | succ k ih =>
   intro i hk hia
   rw [lA.l1_eq]
   simp (disch := omega) only [ss]
   exact ih (i + 1) (by omega) (by omega)
 rw [lA.f_eq]
 have := key _ 0 rfl (aH2 _)
 rw [eH2] at this
 simp (disch := omega) only [ss, this]
theorem eqD (a : List Dy) (ha : a.length ≤ 1000000) : mA.f a a = some (true, ()) := by
 have key : ∀ (k i : Nat), a.length - i = k → i ≤ a.length → mA.l1 a a a.length i = some (true, ()) := by
  intro k
  induction k with
  | zero =>
   intro i hk hia
   rw [mA.l1_eq]
   simp (disch := omega) only [ss]
  | succ k ih =>
   intro i hk hia
   rw [mA.l1_eq]
   simp (disch := omega) only [ss]
   exact ih (i + 1) (by omega) (by omega)
 rw [mA.f_eq]
 have := key _ 0 rfl (aH2 _)
 rw [eH2] at this
 simp (disch := omega) only [ss, this]
theorem hI1 (s : List UInt8) (hs : s.length ≤ 4096) : qA.f (mkS s) = PA (segs 59 s) 0 (0, 1, 0, 0, 0, false, [], [], [], [], [], [], [], [], [], ()) [] := by
 have hsl := jN 59 s
 have hS : yC.f (mkS s) ⟨#[59]⟩ = some ((segs 59 s).map mkS, ()) := lJ (c := 59) s (by omega)
 have hml : ((segs 59 s).map mkS).length = (segs 59 s).length := yG2 ..
 have hR : ∀ (x : List ByteArray) (n : Int), qA.l1 x n 0 0 0 0 0 0 false 0 1 0 0 0 false [] = qA.l1a x n 0 0 0 0 0 0 false 0 1 0 0 0 false [] [] [] [] [] [] [] [] [] [] := fun x n => by
  rw [qA.l1_eq, qA.l1a_eq]
  simp only [qA.l2_eq, qA.l2a_eq, cond_true]
 rw [qA.f_eq]
 simp (disch := omega) only [ss, szS, hS, hR, hml]
 rfl
theorem dT (y : Int) (hy : 1 ≤ y) : fst_ (y + 1) = fst_ y + cum y 13 := by
 unfold fst_ cum cumT
 have e : (if 3 ≤ (13 : Int) ∧ mQ y = true then (1 : Int) else 0) = y / 4 - (y - 1) / 4 - (y / 100 - (y - 1) / 100) + (y / 400 - (y - 1) / 400) := by
  unfold mQ
  by_cases h1 : y % 4 = 0
  ·by_cases h2 : y % 100 = 0
   ·by_cases h5 : y % 400 = 0
    ·rw [if_pos ⟨by omega, by simp [h1, h2, h5]⟩]; omega
    ·rw [if_neg (by simp [h1, h2, h5])]; omega
   ·rw [if_pos ⟨by omega, by simp [h1, h2]⟩]; omega
  ·rw [if_neg (by simp [h1])]; omega
 rw [e]
 simp
 omega
theorem rC2 (y : Int) : 365 ≤ cum y 13 ∧ cum y 13 ≤ 366 := by
 unfold cum cumT
 split <;> (simp; try omega)
theorem eV1 {a b : Int} (h0 : 1 ≤ a) (h : a < b) : fst_ a + 365 ≤ fst_ b := by
 obtain ⟨k, hk⟩ := zH2 (show 0 ≤ b - a - 1 by omega)
 have e : b = a + 1 + (k : Int) := by omega
 subst e
 clear hk h
 induction k with
 | zero =>
  have := dT a h0
  have := rC2 a
  simp
  omega
 | succ k ih =>
  have := dT (a + 1 + (k : Int)) (by omega)
  have := rC2 (a + 1 + (k : Int))
  rw [show a + 1 + ((k + 1 : Nat) : Int) = a + 1 + (k : Int) + 1 by omega]
  omega
theorem dL {a b : Int} (h0 : 1 ≤ a) (h : a ≤ b) : fst_ a ≤ fst_ b := by
 rcases Int.lt_or_eq_of_le h with h | h
 ·have := eV1 h0 h
  omega
 ·rw [h]
  exact Int.le_refl _
theorem jZ1 : fst_ 1 = -719162 := by decide
theorem kU : fst_ 10000 = 2932897 := by decide
theorem dZ1 (y : Int) : cum y 1 = 0 := by
 unfold cum cumT
 simp
theorem zI1 (y : Int) {a b : Int} (h0 : 1 ≤ a) (h : a ≤ b) (h1 : b ≤ 13) : cum y a ≤ cum y b := by
 obtain ⟨k, hk⟩ := zH2 (show 0 ≤ b - a by omega)
 have e : b = a + (k : Int) := by omega
 subst e
 clear hk h
 induction k with
 | zero => simp
 | succ k ih =>
  have := ih (by omega)
  have h2 := sL y (a + (k : Int)) (by omega) (by omega)
  have := qO y (a + (k : Int))
  rw [show a + ((k + 1 : Nat) : Int) = a + (k : Int) + 1 by omega, h2]
  omega
theorem hA2 (n : Int) (h1 : -719162 ≤ n) (h2 : n ≤ 2932896) : ∃ y, 1 ≤ y ∧ y ≤ 9999 ∧ fst_ y ≤ n ∧ n < fst_ (y + 1) := by
 have key : ∀ k : Nat, k ≤ 9999 → n < fst_ (1 + (k : Int)) → ∃ y, 1 ≤ y ∧ y ≤ 9999 ∧ fst_ y ≤ n ∧ n < fst_ (y + 1) := by
  intro k
  induction k with
  | zero =>
   intro _ h
   rw [show (1 : Int) + ((0 : Nat) : Int) = 1 from rfl, jZ1] at h
   omega
  | succ k ih =>
   intro hk h
   by_cases c : n < fst_ (1 + (k : Int))
   ·exact ih (by omega) c
   ·exact ⟨1 + (k : Int), by omega, by omega, by omega, by rw [show (1 : Int) + (k : Int) + 1 = 1 + ((k + 1 : Nat) : Int) by omega]; exact h⟩
 refine key 9999 (zG2 _) ?_
 rw [show (1 : Int) + ((9999 : Nat) : Int) = 10000 from rfl, kU]
 omega
theorem qW1 (y d : Int) (h1 : 0 ≤ d) (h2 : d < cum y 13) : ∃ m, 1 ≤ m ∧ m ≤ 12 ∧ cum y m ≤ d ∧ d < cum y (m + 1) := by
 have key : ∀ k : Nat, k ≤ 12 → d < cum y (1 + (k : Int)) → ∃ m, 1 ≤ m ∧ m ≤ 12 ∧ cum y m ≤ d ∧ d < cum y (m + 1) := by
  intro k
  induction k with
  | zero =>
   intro _ h
   rw [show (1 : Int) + ((0 : Nat) : Int) = 1 from rfl, dZ1] at h
   omega
  | succ k ih =>
   intro hk h
   by_cases c : d < cum y (1 + (k : Int))
   ·exact ih (by omega) c
   ·exact ⟨1 + (k : Int), by omega, by omega, by omega, by rw [show (1 : Int) + (k : Int) + 1 = 1 + ((k + 1 : Nat) : Int) by omega]; exact h⟩
 exact key 12 (zG2 _) h2
def dP1 (n y m d : Int) : Prop := bL y m d = true ∧ fst_ y + d - 1 + cum y m = n
theorem fP {y m d : Int} : bL y m d = true ↔ 1 ≤ y ∧ y ≤ 9999 ∧ 1 ≤ d ∧ d ≤ mlen y m := by
 unfold bL
 simp only [oG2, decide_eq_true_eq, and_assoc]
theorem nP1 {n y m d : Int} (h : dP1 n y m d) : fst_ y ≤ n ∧ n < fst_ (y + 1) ∧ 1 ≤ m ∧ m ≤ 12 ∧ -719162 ≤ n ∧ n ≤ 2932896 := by
 obtain ⟨h1, h2⟩ := h
 obtain ⟨h3, h4, h5, h6⟩ := fP.1 h1
 have hm := (qO y m).2.2 (by omega)
 have hc := sL y m hm.1 hm.2
 have hb := bM y m
 have hs := dT y h3
 have hmo := zI1 y (a := m + 1) (b := 13) (by omega) (by omega) (by omega)
 have h7 := dL (a := 1) (b := y) (by omega) h3
 have h8 := dL (a := y + 1) (b := 10000) (by omega) (by omega)
 rw [jZ1] at h7
 rw [kU] at h8
 exact ⟨by omega, by omega, hm.1, hm.2, by omega, by omega⟩
theorem eC2 (y d0 M : Int) (hy : 1 ≤ y) (hy2 : y ≤ 9999) (h1 : 0 ≤ d0) (h2 : M ≤ 12) (h3 : cum y M ≤ d0) (h4 : d0 < cum y (M + 1)) : ∀ (k : Nat) (m : Int), M - m = k → 1 ≤ m →
  fB.l5 y (d0 - cum y m) m = some (y, M, d0 - cum y M + 1, 0, ()) ∧ eC.l2 y (d0 - cum y m) m = some (y, M, d0 - cum y M + 1, 0, ()) := by
 intro k
 induction k with
 | zero =>
  intro m hk hm
  have e : m = M := by omega
  subst e
  have hc := sL y m hm h2
  have hb := bM y m
  have hb2 := bM y (m + 1)
  rw [fB.l5_eq, eC.l2_eq, gO y m (by omega), gK y m (by omega)]
  simp (disch := omega) only [ss, ge_iff_le]
  exact ⟨trivial, trivial⟩
 | succ k ih =>
  intro m hk hm
  have hc := sL y m hm (by omega)
  have hmo := zI1 y (a := m + 1) (b := M) (by omega) (by omega) (by omega)
  have hb := bM y m
  have hb1 := bM y M
  have hb2 := bM y (m + 1)
  have hb3 := bM y (M + 1)
  rw [fB.l5_eq, eC.l2_eq, gO y m (by omega), gK y m (by omega)]
  have e : d0 - cum y m - mlen y m = d0 - cum y (m + 1) := by omega
  simp (disch := omega) only [ss, ge_iff_le]
  rw [e]
  exact ih (m + 1) (by omega) (by omega)
theorem kV1 (y : Int) (hy : 1 ≤ y) (hy2 : y ≤ 10000) : cF.f y 1 1 = some (fst_ y, ()) := by
 rw [tR y 1 1 hy hy2 (by omega) (by omega) (by omega) (by omega), dZ1]
 congr 2
 omega
theorem yC2 (n Y : Int) (hY : 1 ≤ Y) (h1 : fst_ Y ≤ n) (h2 : n < fst_ (Y + 1)) : ∀ (k : Nat) (z : Int), z - Y = k → z ≤ 9999 → fB.l4 n z = fB.l5 Y (n - fst_ Y) 1 := by
 intro k
 have hfb := iS (Y + 1) (by omega)
 induction k with
 | zero =>
  intro z hk hz
  have e : z = Y := by omega
  subst e
  have hfb := iS z (by omega) (by omega)
  have hfb1 := iS (z + 1) (by omega) (by omega)
  rw [fB.l4_eq, kV1 z (by omega) (by omega)]
  simp (disch := omega) only [ss, gt_iff_lt]
 | succ k ih =>
  intro z hk hz
  have hm := dL (a := Y + 1) (b := z) (by omega) (by omega)
  have hfb := iS z (by omega) (by omega)
  rw [fB.l4_eq, kV1 z (by omega) (by omega)]
  simp (disch := omega) only [ss, gt_iff_lt]
  exact ih (z - 1) (by omega) (by omega)
theorem sD2 (n Y : Int) (hY : 1 ≤ Y) (hY2 : Y ≤ 9999) (h1 : fst_ Y ≤ n) (h2 : n < fst_ (Y + 1)) : ∀ (k : Nat) (y : Int), (Y - y).toNat = k → 1 ≤ y → y ≤ 9999 → ∃ z, Y ≤ z ∧ z ≤ 9999 ∧ fB.l1 n y = fB.l4 n z := by
 intro k
 induction k with
 | zero =>
  intro y hk hy hy2
  refine ⟨y, by omega, hy2, ?_⟩
  rw [fB.l1_eq]
  by_cases c : y < 9999
  ·have hm := dL (a := Y + 1) (b := y + 1) (by omega) (by omega)
   have hw : w6 (y + 1) = y + 1 := wr (by omega) (by omega)
   rw [hw, kV1 (y + 1) (by omega) (by omega)]
   simp (disch := omega) only [ss, fB.l2_eq, fB.l3_eq]
  ·simp (disch := omega) only [ss, fB.l2_eq, fB.l3_eq]
 | succ k ih =>
  intro y hk hy hy2
  have hm := dL (a := y + 1) (b := Y) (by omega) (by omega)
  have hw : w6 (y + 1) = y + 1 := wr (by omega) (by omega)
  obtain ⟨z, z1, z2, z3⟩ := ih (y + 1) (by omega) (by omega) (by omega)
  refine ⟨z, z1, z2, ?_⟩
  rw [fB.l1_eq, hw, kV1 (y + 1) (by omega) (by omega)]
  simp (disch := omega) only [ss, fB.l2_eq]
  exact z3
theorem mA2 (n Y : Int) (hY : 1 ≤ Y) (hY2 : Y ≤ 9999) (h1 : fst_ Y ≤ n) (h2 : n < fst_ (Y + 1)) : ∀ (k : Nat) (y : Int), Y - y = k → 1 ≤ y → eC.l1 n y = eC.l2 Y (n - fst_ Y) 1 := by
 intro k
 induction k with
 | zero =>
  intro y hk hy
  have e : y = Y := by omega
  subst e
  have hfb := iS y (by omega) (by omega)
  have hfb1 := iS (y + 1) (by omega) (by omega)
  have hw : w6 (y + 1) = y + 1 := wr (by omega) (by omega)
  rw [eC.l1_eq, hw, cJ (y + 1) (by omega) (by omega), cJ y (by omega) (by omega)]
  simp (disch := omega) only [ss]
 | succ k ih =>
  intro y hk hy
  have hm := dL (a := y + 1) (b := Y) (by omega) (by omega)
  have hw : w6 (y + 1) = y + 1 := wr (by omega) (by omega)
  rw [eC.l1_eq, hw, cJ (y + 1) (by omega) (by omega)]
  simp (disch := omega) only [ss]
  exact ih (y + 1) (by omega) (by omega)
theorem wN1 (n : Int) (h1 : -719162 ≤ n) (h2 : n ≤ 2932896) : ∃ y m d, dP1 n y m d ∧ fB.f n = some (y, m, d, 0, ()) ∧ eC.f n = some (y, m, d, 0, ()) := by
 obtain ⟨Y, y1, y2, y3, y4⟩ := hA2 n h1 h2
 have hs := dT Y y1
 obtain ⟨M, m1, m2, m3, m4⟩ := qW1 Y (n - fst_ Y) (by omega) (by omega)
 have hc := sL Y M m1 m2
 have h5 := eC2 Y (n - fst_ Y) M y1 y2 (by omega) m2 m3 m4 (M - 1).toNat 1 (by omega) (by omega)
 rw [dZ1, Int.sub_zero] at h5
 refine ⟨Y, M, n - fst_ Y - cum Y M + 1, ⟨fP.2 ⟨y1, y2, by omega, by omega⟩, by omega⟩, ?_, ?_⟩
 ·have hz1 : (n + 719162) * 400 / 146097 + 1 ≤ 9999 := by omega
  obtain ⟨z, z1, z2, z3⟩ := sD2 n Y y1 y2 y3 y4 _ ((n + 719162) * 400 / 146097 + 1) rfl (by omega) hz1
  have h4 := yC2 n Y y1 y3 y4 (z - Y).toNat z (by omega) z2
  rw [fB.f_eq, dP.f_eq]
  have e1 : w6 (n - -719162) = n + 719162 := by rw [wr (by omega) (by omega)]; omega
  have e2 : w6 ((n + 719162) * 400) = (n + 719162) * 400 := wr (by omega) (by omega)
  simp (disch := omega) only [ss, e1, e2, tdn (show 0 ≤ (n + 719162) * 400 by omega), ge_iff_le]
  rw [z3, h4]
  exact h5.1
 ·have hlow : fst_ (Y + 1) ≤ -719162 + 366 * Y := by
   unfold fst_
   omega
  have hv := mA2 n Y y1 y2 y3 y4 (Y - ((n + 719162) / 366 + 1)).toNat ((n + 719162) / 366 + 1) (by omega) (by omega)
  have e1 : w6 (n - -719162) = n + 719162 := by rw [wr (by omega) (by omega)]; omega
  rw [eC.f_eq, pN.f_eq, cJ 1 (by omega) (by omega), cJ 10000 (by omega) (by omega), jZ1, kU]
  simp (disch := omega) only [ss, e1, tdn (show 0 ≤ n + 719162 by omega), ge_iff_le]
  rw [hv]
  exact h5.2
theorem tdm (t k : Int) (hk : 0 < k) : Int.tdiv t k = (if t % k ≠ 0 ∧ t < 0 then t / k + 1 else t / k) ∧ Int.tmod t k = (if t % k ≠ 0 ∧ t < 0 then t % k - k else t % k) := by
 by_cases h : 0 ≤ t
 ·rw [if_neg (by omega), if_neg (by omega)]
  exact ⟨tdn h k, tmn h k⟩
 ·have e : t = -(-t) := by omega
  have h1 : Int.tdiv t k = -((-t) / k) := by rw [e, Int.neg_tdiv, tdn (by omega), Int.neg_neg]
  have h2 : Int.tmod t k = -((-t) % k) := by rw [e, Int.neg_tmod, tmn (by omega), Int.neg_neg]
  have h3 := Int.emod_add_mul_ediv t k
  have h4 := Int.emod_add_mul_ediv (-t) k
  have b1 := Int.emod_nonneg t (show k ≠ 0 by omega)
  have b2 := Int.emod_lt_of_pos t hk
  have b3 := Int.emod_nonneg (-t) (show k ≠ 0 by omega)
  have b4 := Int.emod_lt_of_pos (-t) hk
  rw [h1, h2]
  by_cases hz : t % k = 0
  ·rw [if_neg (by omega), if_neg (by omega)]
   have hz2 : (-t) % k = 0 := by
    have : k ∣ t := Int.dvd_of_emod_eq_zero hz
    exact Int.emod_eq_zero_of_dvd (Int.dvd_neg.2 this)
   have : (-t) / k = -(t / k) := Int.neg_ediv_of_dvd (Int.dvd_of_emod_eq_zero hz)
   exact ⟨by omega, by omega⟩
  ·rw [if_pos ⟨hz, by omega⟩, if_pos ⟨hz, by omega⟩]
   have hq : (-t) % k = k - t % k := by
    have e1 : -t = (k - t % k) + k * (-(t / k) - 1) := by
     rw [Int.mul_sub, Int.mul_neg]
     omega
    rw [e1, Int.add_mul_emod_self_left, Int.emod_eq_of_lt (by omega) (by omega)]
   have hd : (-t) / k = -(t / k) - 1 := by
    have : k * ((-t) / k) = k * (-(t / k) - 1) := by
     rw [Int.mul_sub, Int.mul_neg]
     omega
    exact Int.eq_of_mul_eq_mul_left (by omega) this
   exact ⟨by omega, by omega⟩
theorem dT1 (t : Int) (h1 : -9000000000000000000 ≤ t) (h2 : t ≤ 9000000000000000000) : gH.f t = some (t / 86400, t % 86400, ()) ∧ qJ.f t = some (t / 86400, t % 86400, ()) := by
 obtain ⟨e1, e2⟩ := tdm t 86400 (by omega)
 rw [gH.f_eq, qJ.f_eq, dF.f_eq, e1, e2]
 by_cases c : t % 86400 ≠ 0 ∧ t < 0
 ·rw [if_pos c, if_pos c]
  have q1 : t / 86400 + 1 - 1 = t / 86400 := by omega
  have q2 : t % 86400 - 86400 + 86400 = t % 86400 := by omega
  simp (disch := omega) only [ss, q1, q2]
  exact ⟨trivial, trivial⟩
 ·rw [if_neg c, if_neg c]
  simp (disch := omega) only [ss]
  exact ⟨trivial, trivial⟩
theorem oD2 (t : Int) : uK.f t = some (decide (-62135596800 ≤ t ∧ t ≤ 253402300799), ()) ∧ fG.f t = some (decide (-62135596800 ≤ t ∧ t ≤ 253402300799), ()) := by
 rw [uK.f_eq, fG.f_eq]
 by_cases c : -62135596800 ≤ t
 ·by_cases c2 : t ≤ 253402300799
  ·simp (disch := omega) only [ss, ge_iff_le]
   exact ⟨trivial, trivial⟩
  ·simp (disch := omega) only [ss, ge_iff_le]
   exact ⟨trivial, trivial⟩
 ·simp (disch := omega) only [ss, ge_iff_le]
  exact ⟨trivial, trivial⟩
def dgs : Nat → Nat → List UInt8
 | 0, _ => []
 | w + 1, n => dgs w (n / 10) ++ [UInt8.ofNat (48 + n % 10)]
theorem pK : ∀ (w n : Nat), (dgs w n).length = w
 | 0, _ => rfl
 | w + 1, n => by rw [dgs, pG2, pK w]; rfl
theorem tH : ∀ (w n : Nat), digs (dgs w n)
 | 0, _ => fun c h => by cases h
 | w + 1, n => by
  rw [dgs, xL]
  refine ⟨tH w _, fun c h => ?_⟩
  rw [qH2] at h
  subst h
  unfold dig
  rw [of48 (by omega)]
  omega
theorem eO : ∀ (w n : Nat), n < 10 ^ w → dval 0 (dgs w n) = n
 | 0, n, h => by
  have : n = 0 := by simpa using h
  subst this
  rfl
 | w + 1, n, h => by
  rw [Nat.pow_succ] at h
  rw [dgs, bH, eO w (n / 10) (by omega)]
  have h8 := of48 (show n % 10 < 10 by omega)
  generalize UInt8.ofNat (48 + n % 10) = c at h8
  show 10 * (n / 10) + (c.toNat - 48) = n
  omega
theorem qJ1 : ∀ w : Nat, dgs w 0 = List.replicate w 48
 | 0 => rfl
 | w + 1 => by rw [dgs, Nat.zero_div, qJ1 w, List.replicate_succ']; rfl
theorem dF2 : ∀ (w n : Nat), n < 10 ^ (w + 1) → ∃ z, z + (Lib.decDigits n).length = w + 1 ∧ List.replicate z 48 ++ Lib.decDigits n = dgs (w + 1) n := by
 intro w
 induction w with
 | zero =>
  intro n h
  have h : n < 10 := by simpa using h
  have e : Lib.decDigits n = [UInt8.ofNat (48 + n)] := by rw [Lib.decDigits, dif_pos h]
  refine ⟨0, by rw [e]; rfl, ?_⟩
  rw [e, dgs, dgs, vJ2 h]
  rfl
 | succ w ih =>
  intro n h
  by_cases hn : n < 10
  ·have e : Lib.decDigits n = [UInt8.ofNat (48 + n)] := by rw [Lib.decDigits, dif_pos hn]
   refine ⟨w + 1, by rw [e]; rfl, ?_⟩
   rw [e, dgs, vJ2 hn, Nat.div_eq_of_lt hn, qJ1]
  ·have e : Lib.decDigits n = Lib.decDigits (n / 10) ++ [UInt8.ofNat (48 + n % 10)] := by rw [Lib.decDigits, dif_neg hn]
   obtain ⟨z, h1, h2⟩ := ih (n / 10) (by rw [Nat.pow_succ] at h; omega)
   refine ⟨z, by rw [e, pG2, wG2]; omega, ?_⟩
   rw [e, dgs, ← h2, hH2]
theorem vI1 : ∀ n : Nat, Lib.repeatL [48] n = List.replicate n 48
 | 0 => rfl
 | n + 1 => by rw [Lib.repeatL, vI1 n, List.replicate_succ]; rfl
theorem sdig (w n : Nat) (h0 : 0 < w) (hw : w ≤ 4) (h : n < 10 ^ w) : bD.f (n : Int) (w : Int) = some (mkS (dgs w n), ()) := by
 have hp : 10 ^ w ≤ 10 ^ 4 := Nat.pow_le_pow_right (by decide) hw
 have hp : 10 ^ w ≤ 10000 := hp
 have hI : sC.f (n : Int) = some (mkS (Lib.decDigits n), ()) := by
  rw [cK n (by omega) (by omega), yE (by omega), tI2]
 obtain ⟨w, rfl⟩ : ∃ v, w = v + 1 := ⟨w - 1, by omega⟩
 obtain ⟨z, h1, h2⟩ := dF2 w n h
 rw [bD.f_eq, hI]
 have hw' : w6 (((w + 1 : Nat) : Int) - ((Lib.decDigits n).length : Int)) = (z : Int) := by
  rw [wr (by omega) (by omega)]
  omega
 have hm : mm true (z : Int) 0 = (z : Int) := by
  simp only [mm, cond_true]
  rw [if_neg (by omega)]
 have hR : tG.f (⟨#[48]⟩ : ByteArray) (z : Int) = some (mkS (List.replicate z 48), ()) := by
  rw [tG.f_sem]
  show (bif decide (0 ≤ (z : Int)) then (bif decide ((z : Int) ≤ 1000000) then (bif decide (0 < ByteArray.size ⟨#[48]⟩) then (bif decide (ByteArray.size ⟨#[48]⟩ ≤ 1000000) then some ((⟨(Lib.repeatL [48] (Int.toNat (z : Int))).toArray⟩ : ByteArray), ()) else none) else none) else none) else none) = _
  rw [tI2, vI1]
  have hs : ByteArray.size ⟨#[48]⟩ = 1 := rfl
  simp (disch := omega) only [ss, hs]
  rfl
 have hl : (List.replicate z (48 : UInt8)).length = z := List.length_replicate ..
 simp (disch := omega) only [ss, szS, hw', hm, hR, hl, sH, h2]
theorem tdig {n : Nat} : IntKind.u8.wrap (w6 (48 + Int.tmod (n : Int) 10)) = ((UInt8.ofNat (48 + n % 10)).toNat : Int) := by
 rw [tmn (by omega), wr (by omega) (by omega), of48 (by omega), Go.IntWalk.u8_in _ ⟨by omega, by omega⟩]
 omega
theorem wZ1 (w : Nat) (hw : w ≤ 4) : ∀ (k i n : Nat) (y : List UInt8), w - i = k → i ≤ w → n ≤ 1000000 → y.length = i → tB.l1 (n : Int) (w : Int) (i : Int) (I y) = some (mkS (dgs k n ++ y), ()) := by
 have hlim : vC = 17179869184 := rfl
 intro k
 induction k with
 | zero =>
  intro i n y hk hi2 hn hy
  rw [tB.l1_eq]
  simp (disch := omega) only [ss, uF1]
  rfl
 | succ k ih =>
  intro i n y hk hi2 hn hy
  have hIl : (I y).length = y.length := by unfold I; rw [yG2]
  have e10 : Int.tdiv (n : Int) 10 = ((n / 10 : Nat) : Int) := by rw [tdn (by omega)]; omega
  rw [tB.l1_eq, tdig, e10]
  have hc : [((UInt8.ofNat (48 + n % 10)).toNat : Int)] ++ I y = I (UInt8.ofNat (48 + n % 10) :: y) := rfl
  have hcl : [((UInt8.ofNat (48 + n % 10)).toNat : Int)].length = 1 := rfl
  simp (disch := omega) only [ss, hIl, hcl, hlim, hc]
  have := ih (i + 1) (n / 10) (UInt8.ofNat (48 + n % 10) :: y) (by omega) (by omega) (by omega) (by rw [vG2, hy])
  rw [Int.natCast_add, hJ2] at this
  rw [this, dgs, hH2]
  rfl
theorem vdig (w n : Nat) (hw : w ≤ 4) (hn : n ≤ 1000000) : tB.f (n : Int) (w : Int) = some (mkS (dgs w n), ()) := by
 have := wZ1 w hw w 0 n [] (by omega) (by omega) hn rfl
 rw [kH2, eH2] at this
 rw [tB.f_eq]
 exact this
def wH1 (y m d h i s : Nat) : List UInt8 := (dgs 4 y ++ (dgs 2 m ++ dgs 2 d)) ++ 84 :: (dgs 2 h ++ (dgs 2 i ++ dgs 2 s))
theorem zP1 (y m d h i s : Nat) (hy : y < 10000) (hm : m < 100) (hd : d < 100) (hh : h < 100) (hi2 : i < 100) (hs : s < 100) : bB.f (mkS (wH1 y m d h i s)) = (mC.f (y : Int) (m : Int) (d : Int) (h : Int) (i : Int) (s : Int)).bind fun t3 => some (t3.1, t3.2.1, ()) := by
 unfold wH1
 obtain ⟨a, ha⟩ : ∃ a, a = dgs 4 y ++ (dgs 2 m ++ dgs 2 d) := ⟨_, rfl⟩
 obtain ⟨b, hb⟩ : ∃ b, b = dgs 2 h ++ (dgs 2 i ++ dgs 2 s) := ⟨_, rfl⟩
 have la : a.length = 8 := by rw [ha]; simp [pK]
 have lb : b.length = 6 := by rw [hb]; simp [pK]
 have da : digs a := by rw [ha, xL, xL]; exact ⟨tH _ _, tH _ _, tH _ _⟩
 have db : digs b := by rw [hb, xL, xL]; exact ⟨tH _ _, tH _ _, tH _ _⟩
 have va : dval 0 a = y * 10000 + m * 100 + d := by
  rw [ha, bH, bH, cI (dgs 2 d), cI (dgs 2 m), pK, pK, eO 4 y hy, eO 2 m hm, eO 2 d hd]
  omega
 have vb : dval 0 b = h * 10000 + i * 100 + s := by
  rw [hb, bH, bH, cI (dgs 2 s), cI (dgs 2 i), pK, pK, eO 2 h (by omega), eO 2 i (by omega), eO 2 s (by omega)]
  omega
 rw [← ha, ← hb]
 have hl : (a ++ 84 :: b).length = 15 := by rw [pG2, vG2]; omega
 have h8 : bt (mkS (a ++ 84 :: b)) 8 = 84 := by
  have := uM (mkS (a ++ 84 :: b)) 8
  have e : (a ++ 84 :: b).getD 8 0 = 84 := by
   rw [rG2, rH2 (by omega), la]
   rfl
  have t : bt (mkS (a ++ 84 :: b)) 8 = (((a ++ 84 :: b).getD 8 0).toNat : Int) := this
  rw [e] at t
  exact t
 have x1 : (mkS (a ++ 84 :: b)).extract 0 8 = mkS a := by
  rw [ex_S, yH2, ← la]
  simp
 have x2 : (mkS (a ++ 84 :: b)).extract 9 15 = mkS b := by
  have : (a ++ 84 :: b).drop 9 = b := by
   rw [show (9 : Nat) = a.length + 1 by omega, sJ2]
   simp
  rw [ex_S, this]
  rw [fJ2 (by omega)]
 have nA := (snum a (by omega)).1 da
 have nB := (snum b (by omega)).1 db
 rw [va] at nA
 rw [vb] at nB
 have t8 : (8 : Int).toNat = 8 := rfl
 have t9 : (9 : Int).toNat = 9 := rfl
 rw [bB.f_eq]
 simp (disch := omega) only [ss, szS, hl, h8, bB.l1_eq, t8, t9, x1, x2, nA, nB, bB.l2_eq]
 rw [tdn (show (0 : Int) ≤ ((y * 10000 + m * 100 + d : Nat) : Int) by omega), tdn (show (0 : Int) ≤ ((y * 10000 + m * 100 + d : Nat) : Int) by omega), tmn (show (0 : Int) ≤ ((y * 10000 + m * 100 + d : Nat) : Int) by omega),
  tdn (show (0 : Int) ≤ ((h * 10000 + i * 100 + s : Nat) : Int) by omega), tdn (show (0 : Int) ≤ ((h * 10000 + i * 100 + s : Nat) : Int) by omega), tmn (show (0 : Int) ≤ ((h * 10000 + i * 100 + s : Nat) : Int) by omega)]
 have w1 : w6 (((y * 10000 + m * 100 + d : Nat) : Int) / 10000) = (y : Int) := by rw [wr (by omega) (by omega)]; omega
 have w2 : w6 (((y * 10000 + m * 100 + d : Nat) : Int) / 100) = ((y * 100 + m : Nat) : Int) := by rw [wr (by omega) (by omega)]; omega
 have w3 : w6 (((h * 10000 + i * 100 + s : Nat) : Int) / 10000) = (h : Int) := by rw [wr (by omega) (by omega)]; omega
 have w4 : w6 (((h * 10000 + i * 100 + s : Nat) : Int) / 100) = ((h * 100 + i : Nat) : Int) := by rw [wr (by omega) (by omega)]; omega
 rw [w1, w2, w3, w4, tmn (show (0 : Int) ≤ ((y * 100 + m : Nat) : Int) by omega), tmn (show (0 : Int) ≤ ((h * 100 + i : Nat) : Int) by omega)]
 rw [show ((y * 100 + m : Nat) : Int) % 100 = (m : Int) by omega, show ((y * 10000 + m * 100 + d : Nat) : Int) % 100 = (d : Int) by omega, show ((h * 100 + i : Nat) : Int) % 100 = (i : Int) by omega, show ((h * 10000 + i * 100 + s : Nat) : Int) % 100 = (s : Int) by omega]
theorem iH (y m d h i s n : Int) (hd : dP1 n y m d) (h1 : 0 ≤ h ∧ h ≤ 23) (h2 : 0 ≤ i ∧ i ≤ 59) (h3 : 0 ≤ s ∧ s ≤ 59) : mC.f y m d h i s = some (n * 86400 + 3600 * h + 60 * i + s, 0, ()) := by
 have hb := nP1 hd
 rw [mC.f_eq, (aE1 y m d).1, if_pos hd.1, hd.2]
 simp (disch := omega) only [ss, gt_iff_lt, mC.l1_eq]
theorem bC2 {y m d : Int} (h : bL y m d = true) : d ≤ 31 := by
 have := fP.1 h
 have := qO y m
 omega
theorem jF1 (t : Int) (h1 : -62135596800 ≤ t) (h2 : t ≤ 253402300799) : ∃ s : List UInt8, s.length = 15 ∧ (∀ c ∈ s, c = 84 ∨ dig c) ∧ jG.f t = some (mkS s, 0, ()) ∧ gI.f t = some (mkS s, 0, ()) ∧ bB.f (mkS s) = some (t, 0, ()) := by
 obtain ⟨y, m, d, hd, e1, e2⟩ := wN1 (t / 86400) (by omega) (by omega)
 obtain ⟨hb1, hb2, hb3, hb4, _, _⟩ := nP1 hd
 obtain ⟨v1, v2, v3, v4⟩ := fP.1 hd.1
 have v5 := bC2 hd.1
 obtain ⟨yn, rfl⟩ := zH2 (show 0 ≤ y by omega)
 obtain ⟨mn, rfl⟩ := zH2 (show 0 ≤ m by omega)
 obtain ⟨dn', rfl⟩ := zH2 (show 0 ≤ d by omega)
 obtain ⟨sn, hsn⟩ := zH2 (show 0 ≤ t % 86400 by omega)
 have hsl : sn < 86400 := by omega
 obtain ⟨g1, g2⟩ := dT1 t (by omega) (by omega)
 rw [hsn] at g1 g2
 have w1 : w6 (Int.tdiv (sn : Int) 3600) = ((sn / 3600 : Nat) : Int) := by rw [tdn (by omega), wr (by omega) (by omega)]; omega
 have w2 : Int.tmod (w6 (Int.tdiv (sn : Int) 60)) 60 = ((sn / 60 % 60 : Nat) : Int) := by rw [tdn (by omega), wr (by omega) (by omega), tmn (by omega)]; omega
 have w3 : Int.tmod (sn : Int) 60 = ((sn % 60 : Nat) : Int) := by rw [tmn (by omega)]; omega
 have q4 : (4 : Int) = ((4 : Nat) : Int) := rfl
 have q2 : (2 : Int) = ((2 : Nat) : Int) := rfl
 have s1 : bD.f (yn : Int) 4 = some (mkS (dgs 4 yn), ()) := sdig 4 yn (by omega) (by omega) (by omega)
 have s2 : bD.f (mn : Int) 2 = some (mkS (dgs 2 mn), ()) := sdig 2 mn (by omega) (by omega) (by omega)
 have s3 : bD.f (dn' : Int) 2 = some (mkS (dgs 2 dn'), ()) := sdig 2 dn' (by omega) (by omega) (by omega)
 have s4 : bD.f ((sn / 3600 : Nat) : Int) 2 = some (mkS (dgs 2 (sn / 3600)), ()) := sdig 2 _ (by omega) (by omega) (by omega)
 have s5 : bD.f ((sn / 60 % 60 : Nat) : Int) 2 = some (mkS (dgs 2 (sn / 60 % 60)), ()) := sdig 2 _ (by omega) (by omega) (by omega)
 have s6 : bD.f ((sn % 60 : Nat) : Int) 2 = some (mkS (dgs 2 (sn % 60)), ()) := sdig 2 _ (by omega) (by omega) (by omega)
 have u1 : tB.f (yn : Int) 4 = some (mkS (dgs 4 yn), ()) := vdig 4 yn (by omega) (by omega)
 have u2 : tB.f (mn : Int) 2 = some (mkS (dgs 2 mn), ()) := vdig 2 mn (by omega) (by omega)
 have u3 : tB.f (dn' : Int) 2 = some (mkS (dgs 2 dn'), ()) := vdig 2 dn' (by omega) (by omega)
 have u4 : tB.f ((sn / 3600 : Nat) : Int) 2 = some (mkS (dgs 2 (sn / 3600)), ()) := vdig 2 _ (by omega) (by omega)
 have u5 : tB.f ((sn / 60 % 60 : Nat) : Int) 2 = some (mkS (dgs 2 (sn / 60 % 60)), ()) := vdig 2 _ (by omega) (by omega)
 have u6 : tB.f ((sn % 60 : Nat) : Int) 2 = some (mkS (dgs 2 (sn % 60)), ()) := vdig 2 _ (by omega) (by omega)
 have hT : (⟨#[84]⟩ : ByteArray) = mkS [84] := rfl
 have ha : dgs 4 yn ++ dgs 2 mn ++ dgs 2 dn' ++ [84] ++ dgs 2 (sn / 3600) ++ dgs 2 (sn / 60 % 60) ++ dgs 2 (sn % 60) = wH1 yn mn dn' (sn / 3600) (sn / 60 % 60) (sn % 60) := by
  unfold wH1
  simp
 refine ⟨wH1 yn mn dn' (sn / 3600) (sn / 60 % 60) (sn % 60), by unfold wH1; simp [pK], ?_, ?_, ?_, ?_⟩
 ·intro c hc
  unfold wH1 at hc
  simp only [xG2, sG2] at hc
  rcases hc with (hc | hc | hc) | hc | hc | hc | hc
  ·exact .inr (tH _ _ c hc)
  ·exact .inr (tH _ _ c hc)
  ·exact .inr (tH _ _ c hc)
  ·exact .inl hc
  ·exact .inr (tH _ _ c hc)
  ·exact .inr (tH _ _ c hc)
  ·exact .inr (tH _ _ c hc)
 ·rw [jG.f_eq, g1]
  simp (disch := omega) only [ss, e1, s1, s2, s3, hT, w1, w2, w3, s4, s5, s6, szS, sH, pG2, wG2, pK, ha]
 ·have hM : fG.f t = some (true, ()) := by rw [(oD2 t).2, dp ⟨h1, h2⟩]
  rw [gI.f_eq, hM]
  simp (disch := omega) only [ss, g2, e2, u1, u2, u3, hT, w1, w2, w3, u4, u5, u6, szS, sH, pG2, wG2, pK, ha]
 ·rw [zP1 yn mn dn' _ _ _ (by omega) (by omega) (by omega) (by omega) (by omega) (by omega), iH _ _ _ _ _ _ (t / 86400) hd (by omega) (by omega) (by omega)]
  simp only [qG2]
  congr 2
  omega
def opt (b : Bool) (name v : List UInt8) : List (List UInt8) := bif b then [name ++ 61 :: v] else []
def optU (b : Bool) (u : Up) : List Up := bif b then [u] else []
def tl : List (List UInt8) → List UInt8
 | [] => []
 | a :: l => 59 :: (a ++ tl l)
theorem tX1 : ∀ (l m : List (List UInt8)), tl (l ++ m) = tl l ++ tl m
 | [], m => rfl
 | a :: l, m => by
  show 59 :: (a ++ tl (l ++ m)) = (59 :: (a ++ tl l)) ++ tl m
  rw [tX1 l m]
  simp
theorem eE2 : ∀ (a : List UInt8) (l : List (List UInt8)), jn 59 (a :: l) = a ++ tl l
 | a, [] => by simp [jn, tl]
 | a, b :: l => by
  show a ++ 59 :: jn 59 (b :: l) = _
  rw [eE2 b l]
  rfl
theorem iL (b : Bool) (name v : List UInt8) : (tl (opt b name v)).length ≤ name.length + v.length + 2 := by
 cases b with
 | false => simp [opt, tl]
 | true =>
  simp [opt, tl]
  omega
theorem zX (name v s : List UInt8) (b : Bool) (hn : name.length ≤ 20) (hv : v.length ≤ 3000) (hs : s.length ≤ 100000) : nE.f (mkS name) (mkS v) b (mkS s, ()) = some ((mkS (s ++ tl (opt b name v)), ()), ()) := by
 rw [nE.f_eq]
 cases b with
 | false =>
  simp only [cond_false]
  simp [opt, tl]
 | true =>
  have h59 : (⟨#[59]⟩ : ByteArray) = mkS [59] := rfl
  have h61 : (⟨#[61]⟩ : ByteArray) = mkS [61] := rfl
  simp (disch := omega) only [ss, h59, h61, sH, szS, pG2, wG2]
  have : s ++ ([59] ++ name ++ [61] ++ v) = s ++ tl (opt true name v) := by simp [opt, tl]
  rw [this]
theorem lI1 (c : UInt8) : ∀ xs : List (List UInt8), Lib.join xs [c] = jn c xs
 | [] => rfl
 | [a] => by simp [Lib.join, List.intercalate, jn]
 | a :: b :: l => by
  have ih := lI1 c (b :: l)
  unfold Lib.join List.intercalate at ih ⊢
  show _ = a ++ c :: jn c (b :: l)
  rw [← ih]
  simp [List.intersperse]
theorem bS1 (xs : List (List UInt8)) (h : xs.length ≤ 1000) (hl : (jn 44 xs).length ≤ 1000000) : rF.f (xs.map mkS) ⟨#[44]⟩ = some (mkS (jn 44 xs), ()) := by
 have hlim : vC = 17179869184 := rfl
 have e : xS (xs.map mkS) ⟨#[44]⟩ = jn 44 xs := by
  unfold xS
  rw [List.map_map]
  have : (xs.map ((fun x : ByteArray => x.data.toList) ∘ mkS)) = xs := by
   have : ((fun x : ByteArray => x.data.toList) ∘ mkS) = id := rfl
   rw [this, List.map_id]
  rw [this]
  exact lI1 44 xs
 rw [rF.f_sem]
 show vY1 (xs.map mkS) ⟨#[44]⟩ = _
 unfold vY1
 rw [e]
 simp (disch := omega) only [ss, yG2]
 rfl
theorem uX1 : ∀ (k u : Nat), u < 10 ^ (k + 1) → (Lib.decDigits u).length ≤ k + 1 := by
 intro k
 induction k with
 | zero => intro u h; rw [mL1, Lib.nDigits_small (by simpa using h)]; omega
 | succ k ih =>
  intro u h
  by_cases hu : u < 10
  ·rw [mL1, Lib.nDigits_small hu]; omega
  ·have := ih (u / 10) (by rw [Nat.pow_succ] at h; omega)
   rw [mL1] at this ⊢
   rw [Lib.nDigits_big hu]
   omega
theorem wW (n : Int) (h0 : -999 ≤ n) (h1 : n ≤ 9999) : (Lib.itoa n).length ≤ 4 := by
 by_cases hn : n < 0
 ·rw [tF hn, vG2]
  have := uX1 2 n.natAbs (by omega)
  omega
 ·rw [yE hn]
  exact uX1 3 n.toNat (by omega)
theorem gR1 {n : Int} : ∀ c ∈ Lib.itoa n, c = 45 ∨ dig c := by
 intro c hc
 by_cases hn : n < 0
 ·rw [tF hn] at hc
  rcases sG2.1 hc with h | h
  ·exact .inl h
  ·exact .inr (eV _ c h)
 ·rw [yE hn] at hc
  exact .inr (eV _ c hc)
theorem iK {n : Int} {c : UInt8} (h1 : c ≠ 45) (h2 : ¬ dig c) : c ∉ Lib.itoa n := fun h => (gR1 c h).elim h1 h2
theorem lZ (k : Nat) : ∀ l : List (List UInt8), (∀ s ∈ l, s.length ≤ k) → tot l ≤ k * l.length
 | [], _ => aH2 _
 | a :: l, h => by
  have h1 := h a (by simp)
  have h2 := lZ k l fun s hs => h s (tG2 _ hs)
  simp only [tot, vG2]
  rw [Nat.mul_add]
  omega
def small (l : List Int) : Prop := ∀ n ∈ l, -366 ≤ n ∧ n ≤ 366
theorem pJ (l : List Int) (h : l.length ≤ 60) (hb : small l) : (jn 44 (l.map Lib.itoa)).length ≤ 300 := by
 have h1 := zQ1 44 (l.map Lib.itoa)
 have h2 := lZ 4 (l.map Lib.itoa) fun s hs => by
  obtain ⟨n, hn, e⟩ := gH2.1 hs
  rw [← e]
  have := hb n hn
  exact wW n (by omega) (by omega)
 rw [yG2] at h1 h2
 omega
theorem cB1 (l : List Int) (h : l.length ≤ 60) (hb : small l) : rD.f l = some (mkS (jn 44 (l.map Lib.itoa)), ()) := by
 have hlim : vC = 17179869184 := rfl
 have hlen := pJ l h hb
 have hJ := bS1 (l.map Lib.itoa) (by rw [yG2]; omega) (by omega)
 have key : ∀ (k i : Nat), l.length - i = k → i ≤ l.length → rD.l1 l l.length i (((l.take i).map Lib.itoa).map mkS) = some (mkS (jn 44 (l.map Lib.itoa)), ()) := by
  intro k
  induction k with
  | zero =>
   intro i hk hil
   have e : i = l.length := by omega
   subst e
   rw [rD.l1_eq, wJ2, hJ]
   simp (disch := omega) only [ss]
  | succ k ih =>
   intro i hk hil
   have hlt : i < l.length := by omega
   have hn := hb _ (iD 0 hlt)
   have hI := cK (l.getD i 0) (by omega) (by omega)
   have := ih (i + 1) (by omega) (by omega)
   rw [tE 0 hlt, fH2, fH2] at this
   have hl1 : (((l.take i).map Lib.itoa).map mkS).length = i := by simp; omega
   rw [rD.l1_eq]
   simp (disch := omega) only [ss, hI, hl1, wG2, hlim]
   exact this
 have := key _ 0 rfl (aH2 _)
 rw [eH2] at this
 rw [rD.f_eq]
 exact this
theorem yR (name : List UInt8) (l : List Int) (s : List UInt8) (hn : name.length ≤ 20) (h : l.length ≤ 60) (hb : small l) (hs : s.length ≤ 100000) :
  zD.f (mkS name) l (((mkS s, ()), ()), ()) = some ((((mkS (s ++ tl (opt (decide ((l.length : Int) > 0)) name (jn 44 (l.map Lib.itoa)))), ()), ()), ()), ()) := by
 have hl := pJ l h hb
 rw [zD.f_eq, cB1 l h hb]
 simp only [qG2]
 rw [zX name _ s _ hn (by omega) hs]
 rfl
def dt (d : Dy) : List UInt8 := (if d.1 = 0 then [] else Lib.itoa d.1) ++ wd.getD d.2.1.toNat []
def uW (l : List Dy) : Prop := ∀ d ∈ l, -53 ≤ d.1 ∧ d.1 ≤ 53 ∧ 0 ≤ d.2.1 ∧ d.2.1 ≤ 6
theorem fw7 : fw.length = 7 := rfl
theorem wd7 : wd.length = 7 := rfl
theorem sT {α : Type} {l : List α} {z : α} {i : Nat} (h : ¬ i < l.length) : l.getD i z = z := by
 rw [rG2, qI2 (by omega)]
 rfl
theorem nC2 (i : Nat) : (fw.getD i []).length ≤ 8 := by
 by_cases h : i < fw.length
 ·exact (show ∀ s ∈ fw, s.length ≤ 8 by decide) _ (iD [] h)
 ·rw [sT h]
  exact aH2 _
theorem iT1 (i : Nat) : (wd.getD i []).length ≤ 2 := by
 by_cases h : i < wd.length
 ·exact (show ∀ s ∈ wd, s.length ≤ 2 by decide) _ (iD [] h)
 ·rw [sT h]
  exact aH2 _
theorem yX1 (d : Dy) (h : -53 ≤ d.1 ∧ d.1 ≤ 53) : (dt d).length ≤ 6 := by
 have h1 := iT1 d.2.1.toNat
 have h2 := wW d.1 (by omega) (by omega)
 unfold dt
 rw [pG2]
 split
 ·rw [aI2]; omega
 ·omega
theorem nH1 (l : List Dy) (h : l.length ≤ 60) (hb : uW l) : (jn 44 (l.map dt)).length ≤ 420 := by
 have h1 := zQ1 44 (l.map dt)
 have h2 := lZ 6 (l.map dt) fun s hs => by
  obtain ⟨n, hn, e⟩ := gH2.1 hs
  rw [← e]
  have := hb n hn
  exact yX1 n ⟨this.1, this.2.1⟩
 rw [yG2] at h1 h2
 omega
theorem yM1 (l : List Dy) (h : l.length ≤ 60) (hb : uW l) : tD.f l = some (mkS (jn 44 (l.map dt)), ()) := by
 have hlim : vC = 17179869184 := rfl
 have hlen := nH1 l h hb
 have hJ := bS1 (l.map dt) (by rw [yG2]; omega) (by omega)
 have key : ∀ (k i : Nat), l.length - i = k → i ≤ l.length → tD.l1 l l.length i (((l.take i).map dt).map mkS) = some (mkS (jn 44 (l.map dt)), ()) := by
  intro k
  induction k with
  | zero =>
   intro i hk hil
   have e : i = l.length := by omega
   subst e
   rw [tD.l1_eq, wJ2, hJ]
   simp (disch := omega) only [ss]
  | succ k ih =>
   intro i hk hil
   have hlt : i < l.length := by omega
   have hn := hb _ (iD ((0, 0, ()) : Dy) hlt)
   have := ih (i + 1) (by omega) (by omega)
   rw [tE ((0, 0, ()) : Dy) hlt, fH2, fH2] at this
   have hl1 : (((l.take i).map dt).map mkS).length = i := by simp; omega
   have hs1 : [dt (l.getD i ((0, 0, ()) : Dy))].map mkS = [mkS (dt (l.getD i ((0, 0, ()) : Dy)))] := rfl
   have hs2 : [l.getD i ((0, 0, ()) : Dy)].map dt = [dt (l.getD i ((0, 0, ()) : Dy))] := rfl
   rw [hs2, hs1] at this
   have hdl := yX1 (l.getD i ((0, 0, ()) : Dy)) ⟨hn.1, hn.2.1⟩
   rw [tD.l1_eq]
   generalize hd : l.getD i ((0, 0, ()) : Dy) = d at hn this hdl
   have hd' : l.getD i ((0, 0, ()) : Int × Int × Unit) = d := hd
   have hI := cK d.1 (by omega) (by omega)
   have hgw := gm wd d.2.1.toNat (by rw [wd7]; omega)
   have hwl : ((wd.map mkS).length : Int) = 7 := rfl
   have hl4 := wW d.1 (by omega) (by omega)
   have hl2 := iT1 d.2.1.toNat
   by_cases c : d.1 = 0
   ·have e : dt d = wd.getD d.2.1.toNat [] := by unfold dt; rw [if_pos c]; rfl
    rw [e] at this
    simp (disch := omega) only [ss, hd', uH, hwl, hgw, tD.l2_eq, hl1, wG2, hlim]
    exact this
   ·have e : dt d = Lib.itoa d.1 ++ wd.getD d.2.1.toNat [] := by unfold dt; rw [if_neg c]
    rw [e] at this
    simp (disch := omega) only [ss, hd', uH, hwl, hgw, hI, szS, sH, tD.l2_eq, hl1, wG2, hlim]
    exact this
 have := key _ 0 rfl (aH2 _)
 rw [eH2] at this
 rw [tD.f_eq]
 exact this
theorem mK {l : List Int} {lo hi : Int} {z : Bool} (h : wi l lo hi z) (h1 : -366 ≤ lo) (h2 : hi ≤ 366) : l.length ≤ 60 ∧ small l := by
 refine ⟨h.2, fun n hn => ?_⟩
 obtain ⟨j, hj, e⟩ := oJ2 hn
 have h3 := (h.1 j hj).1
 unfold okI at h3
 rw [yG 0 hj, e] at h3
 omega
theorem nN1 {l : List Dy} (h : dwi l) : l.length ≤ 60 ∧ uW l := by
 refine ⟨h.2, fun n hn => ?_⟩
 obtain ⟨j, hj, e⟩ := oJ2 hn
 have h3 := h.1 j hj
 unfold okD gD at h3
 rw [yG _ hj, e] at h3
 exact ⟨h3.1, h3.2.1, h3.2.2.1, h3.2.2.2.1⟩
open Classical in
/-- A moment's text. -/
noncomputable def utx (t : Int) : List UInt8 := if h : -62135596800 ≤ t ∧ t ≤ 253402300799 then Classical.choose (jF1 t h.1 h.2) else []
theorem xW (t : Int) (h : -62135596800 ≤ t ∧ t ≤ 253402300799) : (utx t).length = 15 ∧ (∀ c ∈ utx t, c = 84 ∨ dig c) ∧ jG.f t = some (mkS (utx t), 0, ()) ∧ gI.f t = some (mkS (utx t), 0, ()) ∧ bB.f (mkS (utx t)) = some (t, 0, ()) := by
 unfold utx
 rw [dif_pos h]
 exact Classical.choose_spec (jF1 t h.1 h.2)
theorem dI (t : Int) (h : -62135596800 ≤ t ∧ t ≤ 253402300799) : (utx t).length ≤ 15 ∧ jG.f t = some (mkS (utx t), 0, ()) ∧ bB.f (mkS (utx t)) = some (t, 0, ()) := by
 obtain ⟨h1, _, h2, _, h3⟩ := xW t h
 exact ⟨by omega, h2, h3⟩
theorem pE1 (f iv ct un wk : Int) (en : Bool) (mo we yd md : List Int) (dy : List Dy) (ho mi se po : List Int) (hp : mayP f iv ct un wk en mo we yd md dy ho mi se po) :
  (1 ≤ f ∧ f ≤ 7 ∧ 1 ≤ iv ∧ iv ≤ 1000) ∧ (0 ≤ ct ∧ ct ≤ 4096 ∧ 0 ≤ wk ∧ wk ≤ 6) ∧ (-62135596800 ≤ un ∧ un ≤ 253402300799) ∧ (mo.length ≤ 60 ∧ small mo) ∧ (we.length ≤ 60 ∧ small we) ∧ (yd.length ≤ 60 ∧ small yd) ∧ (md.length ≤ 60 ∧ small md) ∧ (dy.length ≤ 60 ∧ uW dy) ∧ (ho.length ≤ 60 ∧ small ho) ∧ (mi.length ≤ 60 ∧ small mi) ∧ (se.length ≤ 60 ∧ small se) ∧ (po.length ≤ 60 ∧ small po) := by
 obtain ⟨⟨h1, h2, h3⟩, ⟨l1, l2, l3, l4, l5, l6, l7, l8, l9, _⟩, _⟩ := hp
 refine ⟨⟨h1.1, h1.2.1, h1.2.2.1, h1.2.2.2.1⟩, ⟨h1.2.2.2.2.1, h1.2.2.2.2.2.1, h1.2.2.2.2.2.2.1, h1.2.2.2.2.2.2.2⟩, ?_, mK l1 (by omega) (by omega), mK l2 (by omega) (by omega), mK l3 (by omega) (by omega), mK l4 (by omega) (by omega), nN1 l9, mK l5 (by omega) (by omega), mK l6 (by omega) (by omega), mK l7 (by omega) (by omega), mK l8 (by omega) (by omega)⟩
 cases en with
 | true => exact (h2 rfl).1
 | false => rw [h3 rfl]; omega
section
variable (f iv ct un wk : Int) (en : Bool) (mo we yd md : List Int) (dy : List Dy) (ho mi se po : List Int)
noncomputable def rest : List (List UInt8) :=
 opt (!decide (iv = 1)) [73, 78, 84, 69, 82, 86, 65, 76] (Lib.itoa iv) ++ (opt (!decide (ct = 0)) [67, 79, 85, 78, 84] (Lib.itoa ct) ++ (opt (en) [85, 78, 84, 73, 76] (utx un) ++ (opt (decide ((mo.length : Int) > 0)) [66, 89, 77, 79, 78, 84, 72] (jn 44 (mo.map Lib.itoa)) ++ (opt (decide ((we.length : Int) > 0)) [66, 89, 87, 69, 69, 75, 78, 79] (jn 44 (we.map Lib.itoa)) ++ (opt (decide ((yd.length : Int) > 0)) [66, 89, 89, 69, 65, 82, 68, 65, 89] (jn 44 (yd.map Lib.itoa)) ++ (opt (decide ((md.length : Int) > 0)) [66, 89, 77, 79, 78, 84, 72, 68, 65, 89] (jn 44 (md.map Lib.itoa)) ++ (opt (decide ((dy.length : Int) > 0)) [66, 89, 68, 65, 89] (jn 44 (dy.map dt)) ++ (opt (decide ((ho.length : Int) > 0)) [66, 89, 72, 79, 85, 82] (jn 44 (ho.map Lib.itoa)) ++ (opt (decide ((mi.length : Int) > 0)) [66, 89, 77, 73, 78, 85, 84, 69] (jn 44 (mi.map Lib.itoa)) ++ (opt (decide ((se.length : Int) > 0)) [66, 89, 83, 69, 67, 79, 78, 68] (jn 44 (se.map Lib.itoa)) ++ (opt (decide ((po.length : Int) > 0)) [66, 89, 83, 69, 84, 80, 79, 83] (jn 44 (po.map Lib.itoa)) ++ (opt (!decide (wk = 0)) [87, 75, 83, 84] (wd.getD wk.toNat [])))))))))))))
noncomputable def wS : List (List UInt8) := ([70, 82, 69, 81] ++ 61 :: fw.getD (f - 1).toNat []) :: rest iv ct un wk en mo we yd md dy ho mi se po
def ups : List Up :=
 .fr f :: (optU (!decide (iv = 1)) (.iv iv) ++ (optU (!decide (ct = 0)) (.ct ct) ++ (optU (en) (.un un) ++ (optU (decide ((mo.length : Int) > 0)) (.mo mo) ++ (optU (decide ((we.length : Int) > 0)) (.we we) ++ (optU (decide ((yd.length : Int) > 0)) (.yd yd) ++ (optU (decide ((md.length : Int) > 0)) (.md md) ++ (optU (decide ((dy.length : Int) > 0)) (.dy dy) ++ (optU (decide ((ho.length : Int) > 0)) (.ho ho) ++ (optU (decide ((mi.length : Int) > 0)) (.mi mi) ++ (optU (decide ((se.length : Int) > 0)) (.se se) ++ (optU (decide ((po.length : Int) > 0)) (.po po) ++ (optU (!decide (wk = 0)) (.wk wk))))))))))))))
theorem iY (hM : pA.f (f, iv, ct, un, wk, en, mo, we, yd, md, dy, ho, mi, se, po, ()) = some (true, ())) (hp : mayP f iv ct un wk en mo we yd md dy ho mi se po) : yH.f (f, iv, ct, un, wk, en, mo, we, yd, md, dy, ho, mi, se, po, ()) = some (mkS (jn 59 (wS f iv ct un wk en mo we yd md dy ho mi se po)), 0, ()) ∧ (jn 59 (wS f iv ct un wk en mo we yd md dy ho mi se po)).length ≤ 4096 := by
 obtain ⟨b1, b2, b3, bmo, bwe, byd, bmd, bdy, bho, bmi, bse, bpo⟩ := pE1 f iv ct un wk en mo we yd md dy ho mi se po hp
 have hwf : (fw.getD (f - 1).toNat []).length ≤ 8 := nC2 _
 have hwk : (wd.getD wk.toNat []).length ≤ 2 := iT1 _
 obtain ⟨u1, u2, u3⟩ := dI un b3
 have li := wW iv (by omega) (by omega)
 have lc := wW ct (by omega) (by omega)
 obtain ⟨s0, e0⟩ : ∃ s, s = [70, 82, 69, 81] ++ 61 :: fw.getD (f - 1).toNat [] := ⟨_, rfl⟩
 have n0 : ([70, 82, 69, 81] : List UInt8).length = 4 := rfl
 have l0 : s0.length ≤ 13 := by rw [e0]; simp only [pG2, vG2, aI2]; omega
 have p1 := zX [73, 78, 84, 69, 82, 86, 65, 76] (Lib.itoa iv) s0 (!decide (iv = 1)) (by decide) (by omega) (by omega)
 have q1 := iL (!decide (iv = 1)) [73, 78, 84, 69, 82, 86, 65, 76] (Lib.itoa iv)
 obtain ⟨s1, e1⟩ : ∃ s, s = s0 ++ tl (opt (!decide (iv = 1)) [73, 78, 84, 69, 82, 86, 65, 76] (Lib.itoa iv)) := ⟨_, rfl⟩
 rw [← e1] at p1
 have n1 : ([73, 78, 84, 69, 82, 86, 65, 76] : List UInt8).length = 8 := rfl
 have l1 : s1.length ≤ s0.length + 14 := by rw [e1, pG2]; omega
 have p2 := zX [67, 79, 85, 78, 84] (Lib.itoa ct) s1 (!decide (ct = 0)) (by decide) (by omega) (by omega)
 have q2 := iL (!decide (ct = 0)) [67, 79, 85, 78, 84] (Lib.itoa ct)
 obtain ⟨s2, e2⟩ : ∃ s, s = s1 ++ tl (opt (!decide (ct = 0)) [67, 79, 85, 78, 84] (Lib.itoa ct)) := ⟨_, rfl⟩
 rw [← e2] at p2
 have n2 : ([67, 79, 85, 78, 84] : List UInt8).length = 5 := rfl
 have l2 : s2.length ≤ s1.length + 11 := by rw [e2, pG2]; omega
 have p3 := zX [85, 78, 84, 73, 76] (utx un) s2 (en) (by decide) (by omega) (by omega)
 have q3 := iL (en) [85, 78, 84, 73, 76] (utx un)
 obtain ⟨s3, e3⟩ : ∃ s, s = s2 ++ tl (opt (en) [85, 78, 84, 73, 76] (utx un)) := ⟨_, rfl⟩
 rw [← e3] at p3
 have n3 : ([85, 78, 84, 73, 76] : List UInt8).length = 5 := rfl
 have l3 : s3.length ≤ s2.length + 22 := by rw [e3, pG2]; omega
 have lmo := pJ mo bmo.1 bmo.2
 have p4 := yR [66, 89, 77, 79, 78, 84, 72] mo s3 (by decide) bmo.1 bmo.2 (by omega)
 have q4 := iL (decide ((mo.length : Int) > 0)) [66, 89, 77, 79, 78, 84, 72] (jn 44 (mo.map Lib.itoa))
 obtain ⟨s4, e4⟩ : ∃ s, s = s3 ++ tl (opt (decide ((mo.length : Int) > 0)) [66, 89, 77, 79, 78, 84, 72] (jn 44 (mo.map Lib.itoa))) := ⟨_, rfl⟩
 rw [← e4] at p4
 have n4 : ([66, 89, 77, 79, 78, 84, 72] : List UInt8).length = 7 := rfl
 have l4 : s4.length ≤ s3.length + 309 := by rw [e4, pG2]; omega
 have lwe := pJ we bwe.1 bwe.2
 have p5 := yR [66, 89, 87, 69, 69, 75, 78, 79] we s4 (by decide) bwe.1 bwe.2 (by omega)
 have q5 := iL (decide ((we.length : Int) > 0)) [66, 89, 87, 69, 69, 75, 78, 79] (jn 44 (we.map Lib.itoa))
 obtain ⟨s5, e5⟩ : ∃ s, s = s4 ++ tl (opt (decide ((we.length : Int) > 0)) [66, 89, 87, 69, 69, 75, 78, 79] (jn 44 (we.map Lib.itoa))) := ⟨_, rfl⟩
 rw [← e5] at p5
 have n5 : ([66, 89, 87, 69, 69, 75, 78, 79] : List UInt8).length = 8 := rfl
 have l5 : s5.length ≤ s4.length + 310 := by rw [e5, pG2]; omega
 have lyd := pJ yd byd.1 byd.2
 have p6 := yR [66, 89, 89, 69, 65, 82, 68, 65, 89] yd s5 (by decide) byd.1 byd.2 (by omega)
 have q6 := iL (decide ((yd.length : Int) > 0)) [66, 89, 89, 69, 65, 82, 68, 65, 89] (jn 44 (yd.map Lib.itoa))
 obtain ⟨s6, e6⟩ : ∃ s, s = s5 ++ tl (opt (decide ((yd.length : Int) > 0)) [66, 89, 89, 69, 65, 82, 68, 65, 89] (jn 44 (yd.map Lib.itoa))) := ⟨_, rfl⟩
 rw [← e6] at p6
 have n6 : ([66, 89, 89, 69, 65, 82, 68, 65, 89] : List UInt8).length = 9 := rfl
 have l6 : s6.length ≤ s5.length + 311 := by rw [e6, pG2]; omega
 have lmd := pJ md bmd.1 bmd.2
 have p7 := yR [66, 89, 77, 79, 78, 84, 72, 68, 65, 89] md s6 (by decide) bmd.1 bmd.2 (by omega)
 have q7 := iL (decide ((md.length : Int) > 0)) [66, 89, 77, 79, 78, 84, 72, 68, 65, 89] (jn 44 (md.map Lib.itoa))
 obtain ⟨s7, e7⟩ : ∃ s, s = s6 ++ tl (opt (decide ((md.length : Int) > 0)) [66, 89, 77, 79, 78, 84, 72, 68, 65, 89] (jn 44 (md.map Lib.itoa))) := ⟨_, rfl⟩
 rw [← e7] at p7
 have n7 : ([66, 89, 77, 79, 78, 84, 72, 68, 65, 89] : List UInt8).length = 10 := rfl
 have l7 : s7.length ≤ s6.length + 312 := by rw [e7, pG2]; omega
 have ldy := nH1 dy bdy.1 bdy.2
 have p8 := zX [66, 89, 68, 65, 89] (jn 44 (dy.map dt)) s7 (decide ((dy.length : Int) > 0)) (by decide) (by omega) (by omega)
 have q8 := iL (decide ((dy.length : Int) > 0)) [66, 89, 68, 65, 89] (jn 44 (dy.map dt))
 obtain ⟨s8, e8⟩ : ∃ s, s = s7 ++ tl (opt (decide ((dy.length : Int) > 0)) [66, 89, 68, 65, 89] (jn 44 (dy.map dt))) := ⟨_, rfl⟩
 rw [← e8] at p8
 have n8 : ([66, 89, 68, 65, 89] : List UInt8).length = 5 := rfl
 have l8 : s8.length ≤ s7.length + 427 := by rw [e8, pG2]; omega
 have lho := pJ ho bho.1 bho.2
 have p9 := yR [66, 89, 72, 79, 85, 82] ho s8 (by decide) bho.1 bho.2 (by omega)
 have q9 := iL (decide ((ho.length : Int) > 0)) [66, 89, 72, 79, 85, 82] (jn 44 (ho.map Lib.itoa))
 obtain ⟨s9, e9⟩ : ∃ s, s = s8 ++ tl (opt (decide ((ho.length : Int) > 0)) [66, 89, 72, 79, 85, 82] (jn 44 (ho.map Lib.itoa))) := ⟨_, rfl⟩
 rw [← e9] at p9
 have n9 : ([66, 89, 72, 79, 85, 82] : List UInt8).length = 6 := rfl
 have l9 : s9.length ≤ s8.length + 308 := by rw [e9, pG2]; omega
 have lmi := pJ mi bmi.1 bmi.2
 have p10 := yR [66, 89, 77, 73, 78, 85, 84, 69] mi s9 (by decide) bmi.1 bmi.2 (by omega)
 have q10 := iL (decide ((mi.length : Int) > 0)) [66, 89, 77, 73, 78, 85, 84, 69] (jn 44 (mi.map Lib.itoa))
 obtain ⟨s10, e10⟩ : ∃ s, s = s9 ++ tl (opt (decide ((mi.length : Int) > 0)) [66, 89, 77, 73, 78, 85, 84, 69] (jn 44 (mi.map Lib.itoa))) := ⟨_, rfl⟩
 rw [← e10] at p10
 have n10 : ([66, 89, 77, 73, 78, 85, 84, 69] : List UInt8).length = 8 := rfl
 have l10 : s10.length ≤ s9.length + 310 := by rw [e10, pG2]; omega
 have lse := pJ se bse.1 bse.2
 have p11 := yR [66, 89, 83, 69, 67, 79, 78, 68] se s10 (by decide) bse.1 bse.2 (by omega)
 have q11 := iL (decide ((se.length : Int) > 0)) [66, 89, 83, 69, 67, 79, 78, 68] (jn 44 (se.map Lib.itoa))
 obtain ⟨s11, e11⟩ : ∃ s, s = s10 ++ tl (opt (decide ((se.length : Int) > 0)) [66, 89, 83, 69, 67, 79, 78, 68] (jn 44 (se.map Lib.itoa))) := ⟨_, rfl⟩
 rw [← e11] at p11
 have n11 : ([66, 89, 83, 69, 67, 79, 78, 68] : List UInt8).length = 8 := rfl
 have l11 : s11.length ≤ s10.length + 310 := by rw [e11, pG2]; omega
 have lpo := pJ po bpo.1 bpo.2
 have p12 := yR [66, 89, 83, 69, 84, 80, 79, 83] po s11 (by decide) bpo.1 bpo.2 (by omega)
 have q12 := iL (decide ((po.length : Int) > 0)) [66, 89, 83, 69, 84, 80, 79, 83] (jn 44 (po.map Lib.itoa))
 obtain ⟨s12, e12⟩ : ∃ s, s = s11 ++ tl (opt (decide ((po.length : Int) > 0)) [66, 89, 83, 69, 84, 80, 79, 83] (jn 44 (po.map Lib.itoa))) := ⟨_, rfl⟩
 rw [← e12] at p12
 have n12 : ([66, 89, 83, 69, 84, 80, 79, 83] : List UInt8).length = 8 := rfl
 have l12 : s12.length ≤ s11.length + 310 := by rw [e12, pG2]; omega
 have p13 := zX [87, 75, 83, 84] (wd.getD wk.toNat []) s12 (!decide (wk = 0)) (by decide) (by omega) (by omega)
 have q13 := iL (!decide (wk = 0)) [87, 75, 83, 84] (wd.getD wk.toNat [])
 obtain ⟨s13, e13⟩ : ∃ s, s = s12 ++ tl (opt (!decide (wk = 0)) [87, 75, 83, 84] (wd.getD wk.toNat [])) := ⟨_, rfl⟩
 rw [← e13] at p13
 have n13 : ([87, 75, 83, 84] : List UInt8).length = 4 := rfl
 have l13 : s13.length ≤ s12.length + 8 := by rw [e13, pG2]; omega
 have hfin : s13 = jn 59 (wS f iv ct un wk en mo we yd md dy ho mi se po) := by
  unfold wS rest
  rw [eE2, ← e0]
  simp only [tX1]
  rw [e13, e12, e11, e10, e9, e8, e7, e6, e5, e4, e3, e2, e1]
  simp only [hH2]
 refine ⟨?_, by rw [← hfin]; omega⟩
 have hw : w6 (f - 1) = f - 1 := wr (by omega) (by omega)
 have hgf := gm fw (f - 1).toNat (by rw [fw7]; omega)
 have hgw := gm wd wk.toNat (by rw [wd7]; omega)
 have hfl : ((fw.map mkS).length : Int) = 7 := rfl
 have hwl : ((wd.map mkS).length : Int) = 7 := rfl
 have hIi := cK iv (by omega) (by omega)
 have hIc := cK ct (by omega) (by omega)
 have hD := yM1 dy bdy.1 bdy.2
 have hF : (⟨#[70, 82, 69, 81, 61]⟩ : ByteArray) = mkS [70, 82, 69, 81, 61] := rfl
 have hs0 : [70, 82, 69, 81, 61] ++ fw.getD (f - 1).toNat [] = s0 := by rw [e0]; rfl
 rw [yH.f_eq]
 simp only [hM, qG2, dI2, cond_false, iB1, hw, uH, hgf, hF, sH, hs0, u2, hIi, hIc, hD, hgw, szS, hfl, hwl, nm0, nm1, nm2, nm3, nm4, nm5, nm6, nm7, nm8, nm9, nm10, nm11, nm12, nm13]
 simp (disch := omega) only [ss, vG2, aI2, p1, p2, p3, p4, p5, p6, p7, p8, p9, p10, p11, p12, p13]
 rw [hfin]
end
theorem nG (b : Bool) (name v : List UInt8) (u : Up) (h : b = true → Good (name ++ 61 :: v) u) : All2 Good (opt b name v) (optU b u) := by
 cases b with
 | false => exact trivial
 | true => exact ⟨h rfl, trivial⟩
theorem pG (b : Bool) (u : Up) : List.Sublist ((optU b u).map Up.key) [u.key] := by
 cases b with
 | false => exact List.nil_sublist _
 | true => exact List.Sublist.refl _
theorem yF (r : Rl) (us vs : List Up) : fI r (us ++ vs) = fI (fI r us) vs := by unfold fI; rw [List.foldl_append]
theorem jU {α : Type} (R : α → α → Prop) (tr : ∀ a b c, R a b → R b c → R a c) (z : α) : ∀ l : List α, (∀ j, 0 < j → j < l.length → R (l.getD (j - 1) z) (l.getD j z)) → l.Pairwise R
 | [], _ => List.Pairwise.nil
 | [a], _ => List.pairwise_singleton ..
 | a :: b :: l, h => by
  have ih := jU R tr z (b :: l) fun j h0 hj => by
   have := h (j + 1) (by omega) (by simp at hj ⊢; omega)
   obtain ⟨i, rfl⟩ : ∃ i, j = i + 1 := ⟨j - 1, by omega⟩
   exact this
  have h1 : R a b := h 1 (by omega) (by simp)
  refine vH2.2 ⟨fun x hx => ?_, ih⟩
  rcases sG2.1 hx with e | hx
  ·rw [e]; exact h1
  ·exact tr a b x h1 ((vH2.1 ih).1 x hx)
theorem yJ {l : List Int} {lo hi : Int} {z : Bool} (h : wi l lo hi z) : mL l :=
 jU (fun a b : Int => a < b) (fun _ _ _ => Int.lt_trans) 0 l fun j h0 hj => (h.1 j hj).2 h0
theorem mR1 {l : List Dy} (h : dwi l) : vN l :=
 jU dyLt (fun a b c h g => by unfold dyLt at *; omega) ((0, 0, ()) : Dy) l fun j h0 hj => (h.1 j hj).2.2.2.2 h0
theorem hK1 (n : Int) (h0 : -999999999 ≤ n) (h1 : n ≤ 999999999) : uD.f (mkS (Lib.itoa n)) = some (n, true, ()) := by
 have hl := bN1 (n := n) (by omega) (by omega)
 rcases wJ (Lib.itoa n) (by omega) with ⟨m, hm, e⟩ | ⟨hno, _⟩
 ·rw [e, zI hm ⟨rfl, h0, h1⟩]
 ·exact absurd ⟨rfl, h0, h1⟩ (hno n)
theorem fS1 (f : Int) (h0 : 1 ≤ f) (h1 : f ≤ 7) : Good ([70, 82, 69, 81] ++ 61 :: fw.getD (f - 1).toNat []) (.fr f) := by
 refine ⟨_, rfl, by show (61 : UInt8) ∉ [70, 82, 69, 81]; decide, fun r => ?_⟩
 show dA.f r (mkS [70, 82, 69, 81]) _ = _
 have hp : posF 0 fw (fw.getD (f - 1).toNat []) = f - 1 := by
  have : f = 1 ∨ f = 2 ∨ f = 3 ∨ f = 4 ∨ f = 5 ∨ f = 6 ∨ f = 7 := by omega
  rcases this with rfl | rfl | rfl | rfl | rfl | rfl | rfl <;> rfl
 rw [mI1, gJ fw _ (by decide), hp]
 have hw : w6 (f - 1 + 1) = f := by rw [wr (by omega) (by omega)]; omega
 show some (decide (w6 (f - 1 + 1) > 0), (Up.fr (w6 (f - 1 + 1))).ap r, ()) = _
 rw [hw, dp (show f > 0 by omega)]
theorem tS1 (w : Int) (h0 : 0 ≤ w) (h1 : w ≤ 6) : Good ([87, 75, 83, 84] ++ 61 :: wd.getD w.toNat []) (.wk w) := by
 refine ⟨_, rfl, by show (61 : UInt8) ∉ [87, 75, 83, 84]; decide, fun r => ?_⟩
 show dA.f r (mkS [87, 75, 83, 84]) _ = _
 have hp : posF 0 wd (wd.getD w.toNat []) = w := by
  have : w = 0 ∨ w = 1 ∨ w = 2 ∨ w = 3 ∨ w = 4 ∨ w = 5 ∨ w = 6 := by omega
  rcases this with rfl | rfl | rfl | rfl | rfl | rfl | rfl <;> rfl
 rw [dI1, gJ wd _ (by decide), hp]
 show some (decide (w ≥ 0), (Up.wk w).ap r, ()) = _
 rw [dp (show w ≥ 0 from h0)]
theorem bA1 (n : Int) (h0 : 0 ≤ n) (h1 : n ≤ 9999) : Good ([73, 78, 84, 69, 82, 86, 65, 76] ++ 61 :: Lib.itoa n) (.iv n) := by
 refine ⟨_, rfl, by show (61 : UInt8) ∉ [73, 78, 84, 69, 82, 86, 65, 76]; decide, fun r => ?_⟩
 show dA.f r (mkS [73, 78, 84, 69, 82, 86, 65, 76]) _ = _
 rw [pR, hK1 n (by omega) (by omega)]
 rfl
theorem gN1 (n : Int) (h0 : 0 ≤ n) (h1 : n ≤ 9999) : Good ([67, 79, 85, 78, 84] ++ 61 :: Lib.itoa n) (.ct n) := by
 refine ⟨_, rfl, by show (61 : UInt8) ∉ [67, 79, 85, 78, 84]; decide, fun r => ?_⟩
 show dA.f r (mkS [67, 79, 85, 78, 84]) _ = _
 rw [yE1, hK1 n (by omega) (by omega)]
 rfl
theorem lL1 (t : Int) (s : List UInt8) (h : bB.f (mkS s) = some (t, 0, ())) : Good ([85, 78, 84, 73, 76] ++ 61 :: s) (.un t) := by
 refine ⟨_, rfl, by show (61 : UInt8) ∉ [85, 78, 84, 73, 76]; decide, fun r => ?_⟩
 show dA.f r (mkS [85, 78, 84, 73, 76]) _ = _
 rw [cF1, h]
 rfl
theorem lA1 : ∀ (l : List Int), small l → All2 isN (l.map Lib.itoa) l
 | [], _ => trivial
 | n :: l, h => ⟨⟨rfl, by have := h n (by simp); omega, by have := h n (by simp); omega⟩, lA1 l fun x hx => h x (tG2 _ hx)⟩
theorem tU {α β : Type} {R : α → β → Prop} (hu : ∀ a b c, R a b → R a c → b = c) : ∀ {a : List α} {b c : List β}, All2 R a b → All2 R a c → b = c
 | [], [], [], _, _ => rfl
 | x :: a, y :: b, z :: c, h, g => by rw [hu x y z h.1 g.1, tU hu h.2 g.2]
 | [], _ :: _, _, h, _ => h.elim
 | [], [], _ :: _, _, g => g.elim
 | _ :: _, [], _, h, _ => h.elim
 | _ :: _, _ :: _, [], _, g => g.elim
theorem kK (l : List Int) (hn : l ≠ []) (hr : mL l) (hl : l.length ≤ 60) (hs : small l) : uB.f (mkS (jn 44 (l.map Lib.itoa))) = some (l, true, ()) := by
 have hlen := pJ l hl hs
 have hsg := kV 44 (l.map Lib.itoa) (by simpa using hn) fun s h => by
  obtain ⟨n, _, e⟩ := gH2.1 h
  rw [← e]
  exact iK (by decide) (by unfold dig; decide)
 rcases kH (jn 44 (l.map Lib.itoa)) (by omega) with ⟨r, ⟨⟨q1, _⟩, ns, q3, _, q5⟩, e, _⟩ | ⟨hno, _⟩
 ·rw [hsg] at q3
  have := tU (R := isN) (fun _ _ _ => zI) q3 (lA1 l hs)
  subst this
  rw [e, lR q1 hr q5]
 ·exact absurd ⟨⟨hr, hl⟩, l, by rw [hsg]; exact lA1 l hs, hl, fun _ => Iff.rfl⟩ (hno l)
theorem qZ1 (d : Dy) (h : -53 ≤ d.1 ∧ d.1 ≤ 53 ∧ 0 ≤ d.2.1 ∧ d.2.1 ≤ 6) : isDy (dt d) d := by
 obtain ⟨n, w, ⟨⟩⟩ := d
 dsimp only at h
 have hw2 : (wd.getD w.toNat []).length = 2 := (show ∀ s ∈ wd, s.length = 2 by decide) _ (iD [] (by rw [wd7]; omega))
 have hp : posF 0 wd (wd.getD w.toNat []) = w := by
  have : w = 0 ∨ w = 1 ∨ w = 2 ∨ w = 3 ∨ w = 4 ∨ w = 5 ∨ w = 6 := by omega
  rcases this with rfl | rfl | rfl | rfl | rfl | rfl | rfl <;> rfl
 obtain ⟨a, ha⟩ : ∃ a, a = (if n = 0 then [] else Lib.itoa n) := ⟨_, rfl⟩
 have e : dt (n, w, ()) = a ++ wd.getD w.toNat [] := by unfold dt; rw [ha]
 have hl : (a ++ wd.getD w.toNat []).length - 2 = a.length := by rw [pG2, hw2]; omega
 show isD (dt (n, w, ())) n w
 rw [e]
 unfold isD
 rw [hl, nI2, vI2, hp]
 refine ⟨by rw [pG2]; omega, rfl, h.2.2.1, ?_⟩
 by_cases c : n = 0
 ·rw [if_pos c] at ha
  exact .inl ⟨ha, c⟩
 ·rw [if_neg c] at ha
  refine .inr ⟨?_, ⟨ha, by omega, by omega⟩, c⟩
  rw [ha]
  intro q
  by_cases hn : n < 0
  ·rw [tF hn] at q
   cases q
  ·rw [yE hn] at q
   exact D_ne _ q
theorem yA1 : ∀ (l : List Dy), uW l → All2 isDy (l.map dt) l
 | [], _ => trivial
 | n :: l, h => ⟨qZ1 n (h n (by simp)), yA1 l fun x hx => h x (tG2 _ hx)⟩
theorem gB2 (c : UInt8) (h : ∀ s ∈ wd, c ∉ s) (i : Nat) : c ∉ wd.getD i [] := by
 by_cases hi2 : i < wd.length
 ·exact h _ (iD [] hi2)
 ·rw [sT hi2]
  simp
theorem mD2 (c : UInt8) (h : ∀ s ∈ fw, c ∉ s) (i : Nat) : c ∉ fw.getD i [] := by
 by_cases hi2 : i < fw.length
 ·exact h _ (iD [] hi2)
 ·rw [sT hi2]
  simp
theorem jB2 (c : UInt8) (h1 : c ≠ 45) (h2 : ¬ dig c) (h : ∀ s ∈ wd, c ∉ s) (d : Dy) : c ∉ dt d := by
 unfold dt
 rw [xG2]
 rintro (q | q)
 ·split at q
  ·simp at q
  ·exact iK h1 h2 q
 ·exact gB2 c h _ q
theorem mW1 (l : List Dy) (hn : l ≠ []) (hr : vN l) (hl : l.length ≤ 60) (hs : uW l) : lC.f (mkS (jn 44 (l.map dt))) = some (l, true, ()) := by
 have hlen := nH1 l hl hs
 have hsg := kV 44 (l.map dt) (by simpa using hn) fun s h => by
  obtain ⟨n, _, e⟩ := gH2.1 h
  rw [← e]
  exact jB2 44 (by decide) (by unfold dig; decide) (by decide) n
 have hu : ∀ (a : List UInt8) (b c : Dy), isDy a b → isDy a c → b = c := fun a b c h g => by
  obtain ⟨e1, e2⟩ := zO h g
  obtain ⟨b1, b2, ⟨⟩⟩ := b
  obtain ⟨c1, c2, ⟨⟩⟩ := c
  dsimp only at e1 e2
  rw [e1, e2]
 rcases aS (jn 44 (l.map dt)) (by omega) with ⟨r, ⟨⟨q1, _⟩, ns, q3, _, q5⟩, e, _⟩ | ⟨hno, _⟩
 ·rw [hsg] at q3
  have := tU (R := isDy) hu q3 (yA1 l hs)
  subst this
  rw [e, aO q1 hr q5]
 ·exact absurd ⟨⟨hr, hl⟩, l, by rw [hsg]; exact yA1 l hs, hl, fun _ => Iff.rfl⟩ (hno l)
theorem cL1 (l : List Dy) (hn : l ≠ []) (hr : vN l) (hl : l.length ≤ 60) (hs : uW l) : Good ([66, 89, 68, 65, 89] ++ 61 :: jn 44 (l.map dt)) (.dy l) := by
 refine ⟨_, rfl, by show (61 : UInt8) ∉ [66, 89, 68, 65, 89]; decide, fun r => ?_⟩
 show dA.f r (mkS [66, 89, 68, 65, 89]) _ = _
 rw [vE1, mW1 l hn hr hl hs]
 rfl
theorem wC1 (l : List Int) (hn : l ≠ []) (hr : mL l) (hl : l.length ≤ 60) (hs : small l) : Good ([66, 89, 77, 79, 78, 84, 72] ++ 61 :: jn 44 (l.map Lib.itoa)) (.mo l) := by
 refine ⟨_, rfl, by show (61 : UInt8) ∉ [66, 89, 77, 79, 78, 84, 72]; decide, fun r => ?_⟩
 show dA.f r (mkS [66, 89, 77, 79, 78, 84, 72]) _ = _
 rw [zV, kK l hn hr hl hs]
 rfl
theorem dB1 (l : List Int) (hn : l ≠ []) (hr : mL l) (hl : l.length ≤ 60) (hs : small l) : Good ([66, 89, 87, 69, 69, 75, 78, 79] ++ 61 :: jn 44 (l.map Lib.itoa)) (.we l) := by
 refine ⟨_, rfl, by show (61 : UInt8) ∉ [66, 89, 87, 69, 69, 75, 78, 79]; decide, fun r => ?_⟩
 show dA.f r (mkS [66, 89, 87, 69, 69, 75, 78, 79]) _ = _
 rw [qS, kK l hn hr hl hs]
 rfl
theorem aX (l : List Int) (hn : l ≠ []) (hr : mL l) (hl : l.length ≤ 60) (hs : small l) : Good ([66, 89, 89, 69, 65, 82, 68, 65, 89] ++ 61 :: jn 44 (l.map Lib.itoa)) (.yd l) := by
 refine ⟨_, rfl, by show (61 : UInt8) ∉ [66, 89, 89, 69, 65, 82, 68, 65, 89]; decide, fun r => ?_⟩
 show dA.f r (mkS [66, 89, 89, 69, 65, 82, 68, 65, 89]) _ = _
 rw [qP, kK l hn hr hl hs]
 rfl
theorem pU (l : List Int) (hn : l ≠ []) (hr : mL l) (hl : l.length ≤ 60) (hs : small l) : Good ([66, 89, 77, 79, 78, 84, 72, 68, 65, 89] ++ 61 :: jn 44 (l.map Lib.itoa)) (.md l) := by
 refine ⟨_, rfl, by show (61 : UInt8) ∉ [66, 89, 77, 79, 78, 84, 72, 68, 65, 89]; decide, fun r => ?_⟩
 show dA.f r (mkS [66, 89, 77, 79, 78, 84, 72, 68, 65, 89]) _ = _
 rw [wN, kK l hn hr hl hs]
 rfl
theorem tG1 (l : List Int) (hn : l ≠ []) (hr : mL l) (hl : l.length ≤ 60) (hs : small l) : Good ([66, 89, 72, 79, 85, 82] ++ 61 :: jn 44 (l.map Lib.itoa)) (.ho l) := by
 refine ⟨_, rfl, by show (61 : UInt8) ∉ [66, 89, 72, 79, 85, 82]; decide, fun r => ?_⟩
 show dA.f r (mkS [66, 89, 72, 79, 85, 82]) _ = _
 rw [bZ, kK l hn hr hl hs]
 rfl
theorem qA1 (l : List Int) (hn : l ≠ []) (hr : mL l) (hl : l.length ≤ 60) (hs : small l) : Good ([66, 89, 77, 73, 78, 85, 84, 69] ++ 61 :: jn 44 (l.map Lib.itoa)) (.mi l) := by
 refine ⟨_, rfl, by show (61 : UInt8) ∉ [66, 89, 77, 73, 78, 85, 84, 69]; decide, fun r => ?_⟩
 show dA.f r (mkS [66, 89, 77, 73, 78, 85, 84, 69]) _ = _
 rw [oS, kK l hn hr hl hs]
 rfl
theorem wA1 (l : List Int) (hn : l ≠ []) (hr : mL l) (hl : l.length ≤ 60) (hs : small l) : Good ([66, 89, 83, 69, 67, 79, 78, 68] ++ 61 :: jn 44 (l.map Lib.itoa)) (.se l) := by
 refine ⟨_, rfl, by show (61 : UInt8) ∉ [66, 89, 83, 69, 67, 79, 78, 68]; decide, fun r => ?_⟩
 show dA.f r (mkS [66, 89, 83, 69, 67, 79, 78, 68]) _ = _
 rw [lS, kK l hn hr hl hs]
 rfl
theorem kA1 (l : List Int) (hn : l ≠ []) (hr : mL l) (hl : l.length ≤ 60) (hs : small l) : Good ([66, 89, 83, 69, 84, 80, 79, 83] ++ 61 :: jn 44 (l.map Lib.itoa)) (.po l) := by
 refine ⟨_, rfl, by show (61 : UInt8) ∉ [66, 89, 83, 69, 84, 80, 79, 83]; decide, fun r => ?_⟩
 show dA.f r (mkS [66, 89, 83, 69, 84, 80, 79, 83]) _ = _
 rw [nS, kK l hn hr hl hs]
 rfl
section
variable (f iv ct un wk : Int) (en : Bool) (mo we yd md : List Int) (dy : List Dy) (ho mi se po : List Int)
theorem tL1 (hp : mayP f iv ct un wk en mo we yd md dy ho mi se po) : All2 Good (wS f iv ct un wk en mo we yd md dy ho mi se po) (ups f iv ct un wk en mo we yd md dy ho mi se po) := by
 obtain ⟨b1, b2, b3, bmo, bwe, byd, bmd, bdy, bho, bmi, bse, bpo⟩ := pE1 f iv ct un wk en mo we yd md dy ho mi se po hp
 obtain ⟨u1, u2, u3⟩ := dI un b3
 unfold wS ups rest
 refine ⟨fS1 f (by omega) (by omega), ?_⟩
 refine All2.append (nG _ _ _ _ fun hb => bA1 iv (by omega) (by omega)) ?_
 refine All2.append (nG _ _ _ _ fun hb => gN1 ct (by omega) (by omega)) ?_
 refine All2.append (nG _ _ _ _ fun hb => lL1 un _ u3) ?_
 refine All2.append (nG _ _ _ _ fun hb => wC1 mo (by intro q; rw [q] at hb; exact absurd hb (by decide)) (yJ hp.2.1.1) bmo.1 bmo.2) ?_
 refine All2.append (nG _ _ _ _ fun hb => dB1 we (by intro q; rw [q] at hb; exact absurd hb (by decide)) (yJ hp.2.1.2.1) bwe.1 bwe.2) ?_
 refine All2.append (nG _ _ _ _ fun hb => aX yd (by intro q; rw [q] at hb; exact absurd hb (by decide)) (yJ hp.2.1.2.2.1) byd.1 byd.2) ?_
 refine All2.append (nG _ _ _ _ fun hb => pU md (by intro q; rw [q] at hb; exact absurd hb (by decide)) (yJ hp.2.1.2.2.2.1) bmd.1 bmd.2) ?_
 refine All2.append (nG _ _ _ _ fun hb => cL1 dy (by intro q; rw [q] at hb; exact absurd hb (by decide)) (mR1 hp.2.1.2.2.2.2.2.2.2.2.1) bdy.1 bdy.2) ?_
 refine All2.append (nG _ _ _ _ fun hb => tG1 ho (by intro q; rw [q] at hb; exact absurd hb (by decide)) (yJ hp.2.1.2.2.2.2.1) bho.1 bho.2) ?_
 refine All2.append (nG _ _ _ _ fun hb => qA1 mi (by intro q; rw [q] at hb; exact absurd hb (by decide)) (yJ hp.2.1.2.2.2.2.2.1) bmi.1 bmi.2) ?_
 refine All2.append (nG _ _ _ _ fun hb => wA1 se (by intro q; rw [q] at hb; exact absurd hb (by decide)) (yJ hp.2.1.2.2.2.2.2.2.1) bse.1 bse.2) ?_
 refine All2.append (nG _ _ _ _ fun hb => kA1 po (by intro q; rw [q] at hb; exact absurd hb (by decide)) (yJ hp.2.1.2.2.2.2.2.2.2.1) bpo.1 bpo.2) ?_
 exact nG _ _ _ _ fun hb => tS1 wk (by omega) (by omega)
theorem zT1 : (keys (ups f iv ct un wk en mo we yd md dy ho mi se po)).Nodup ∧ FREQ ∈ keys (ups f iv ct un wk en mo we yd md dy ho mi se po) := by
 constructor
 ·have h : (keys (ups f iv ct un wk en mo we yd md dy ho mi se po)).Sublist ([70, 82, 69, 81] :: ([[73, 78, 84, 69, 82, 86, 65, 76]] ++ ([[67, 79, 85, 78, 84]] ++ ([[85, 78, 84, 73, 76]] ++ ([[66, 89, 77, 79, 78, 84, 72]] ++ ([[66, 89, 87, 69, 69, 75, 78, 79]] ++ ([[66, 89, 89, 69, 65, 82, 68, 65, 89]] ++ ([[66, 89, 77, 79, 78, 84, 72, 68, 65, 89]] ++ ([[66, 89, 68, 65, 89]] ++ ([[66, 89, 72, 79, 85, 82]] ++ ([[66, 89, 77, 73, 78, 85, 84, 69]] ++ ([[66, 89, 83, 69, 67, 79, 78, 68]] ++ ([[66, 89, 83, 69, 84, 80, 79, 83]] ++ ([[87, 75, 83, 84]])))))))))))))) := by
   unfold ups
   refine List.Sublist.cons_cons _ ?_
   simp only [keys, fH2]
   refine List.Sublist.append (pG _ _) ?_
   refine List.Sublist.append (pG _ _) ?_
   refine List.Sublist.append (pG _ _) ?_
   refine List.Sublist.append (pG _ _) ?_
   refine List.Sublist.append (pG _ _) ?_
   refine List.Sublist.append (pG _ _) ?_
   refine List.Sublist.append (pG _ _) ?_
   refine List.Sublist.append (pG _ _) ?_
   refine List.Sublist.append (pG _ _) ?_
   refine List.Sublist.append (pG _ _) ?_
   refine List.Sublist.append (pG _ _) ?_
   refine List.Sublist.append (pG _ _) ?_
   exact pG _ _
  exact List.Pairwise.sublist h (by decide)
 ·exact uG2 ..
theorem fC2 (hp : mayP f iv ct un wk en mo we yd md dy ho mi se po) : fI (0, 1, 0, 0, 0, false, [], [], [], [], [], [], [], [], [], ()) (ups f iv ct un wk en mo we yd md dy ho mi se po) = (f, iv, ct, un, wk, en, mo, we, yd, md, dy, ho, mi, se, po, ()) := by
 have hun : en = false → un = 0 := fun h => hp.1.2.2 h
 unfold ups
 show fI (f, 1, 0, 0, 0, false, [], [], [], [], [], [], [], [], [], ()) _ = _
 have a0 : fI (f, 1, 0, 0, 0, false, [], [], [], [], [], [], [], [], [], ()) (optU (!decide (iv = 1)) (.iv iv)) = (f, iv, 0, 0, 0, false, [], [], [], [], [], [], [], [], [], ()) := by
   by_cases h : iv = 1
   ·subst h; rfl
   ·simp only [dn h, optU, kI2, cond_true]; rfl
 rw [yF, a0]
 have a1 : fI (f, iv, 0, 0, 0, false, [], [], [], [], [], [], [], [], [], ()) (optU (!decide (ct = 0)) (.ct ct)) = (f, iv, ct, 0, 0, false, [], [], [], [], [], [], [], [], [], ()) := by
   by_cases h : ct = 0
   ·subst h; rfl
   ·simp only [dn h, optU, kI2, cond_true]; rfl
 rw [yF, a1]
 have a2 : fI (f, iv, ct, 0, 0, false, [], [], [], [], [], [], [], [], [], ()) (optU (en) (.un un)) = (f, iv, ct, un, 0, en, [], [], [], [], [], [], [], [], [], ()) := by
   cases en with
   | false => rw [hun rfl]; rfl
   | true => rfl
 rw [yF, a2]
 have a3 : fI (f, iv, ct, un, 0, en, [], [], [], [], [], [], [], [], [], ()) (optU (decide ((mo.length : Int) > 0)) (.mo mo)) = (f, iv, ct, un, 0, en, mo, [], [], [], [], [], [], [], [], ()) := by
   cases mo with
   | nil => rfl
   | cons a l =>
    have h : (((a :: l).length : Nat) : Int) > 0 := by rw [vG2]; omega
    simp only [dp h, optU, cond_true]; rfl
 rw [yF, a3]
 have a4 : fI (f, iv, ct, un, 0, en, mo, [], [], [], [], [], [], [], [], ()) (optU (decide ((we.length : Int) > 0)) (.we we)) = (f, iv, ct, un, 0, en, mo, we, [], [], [], [], [], [], [], ()) := by
   cases we with
   | nil => rfl
   | cons a l =>
    have h : (((a :: l).length : Nat) : Int) > 0 := by rw [vG2]; omega
    simp only [dp h, optU, cond_true]; rfl
 rw [yF, a4]
 have a5 : fI (f, iv, ct, un, 0, en, mo, we, [], [], [], [], [], [], [], ()) (optU (decide ((yd.length : Int) > 0)) (.yd yd)) = (f, iv, ct, un, 0, en, mo, we, yd, [], [], [], [], [], [], ()) := by
   cases yd with
   | nil => rfl
   | cons a l =>
    have h : (((a :: l).length : Nat) : Int) > 0 := by rw [vG2]; omega
    simp only [dp h, optU, cond_true]; rfl
 rw [yF, a5]
 have a6 : fI (f, iv, ct, un, 0, en, mo, we, yd, [], [], [], [], [], [], ()) (optU (decide ((md.length : Int) > 0)) (.md md)) = (f, iv, ct, un, 0, en, mo, we, yd, md, [], [], [], [], [], ()) := by
   cases md with
   | nil => rfl
   | cons a l =>
    have h : (((a :: l).length : Nat) : Int) > 0 := by rw [vG2]; omega
    simp only [dp h, optU, cond_true]; rfl
 rw [yF, a6]
 have a7 : fI (f, iv, ct, un, 0, en, mo, we, yd, md, [], [], [], [], [], ()) (optU (decide ((dy.length : Int) > 0)) (.dy dy)) = (f, iv, ct, un, 0, en, mo, we, yd, md, dy, [], [], [], [], ()) := by
   cases dy with
   | nil => rfl
   | cons a l =>
    have h : (((a :: l).length : Nat) : Int) > 0 := by rw [vG2]; omega
    simp only [dp h, optU, cond_true]; rfl
 rw [yF, a7]
 have a8 : fI (f, iv, ct, un, 0, en, mo, we, yd, md, dy, [], [], [], [], ()) (optU (decide ((ho.length : Int) > 0)) (.ho ho)) = (f, iv, ct, un, 0, en, mo, we, yd, md, dy, ho, [], [], [], ()) := by
   cases ho with
   | nil => rfl
   | cons a l =>
    have h : (((a :: l).length : Nat) : Int) > 0 := by rw [vG2]; omega
    simp only [dp h, optU, cond_true]; rfl
 rw [yF, a8]
 have a9 : fI (f, iv, ct, un, 0, en, mo, we, yd, md, dy, ho, [], [], [], ()) (optU (decide ((mi.length : Int) > 0)) (.mi mi)) = (f, iv, ct, un, 0, en, mo, we, yd, md, dy, ho, mi, [], [], ()) := by
   cases mi with
   | nil => rfl
   | cons a l =>
    have h : (((a :: l).length : Nat) : Int) > 0 := by rw [vG2]; omega
    simp only [dp h, optU, cond_true]; rfl
 rw [yF, a9]
 have a10 : fI (f, iv, ct, un, 0, en, mo, we, yd, md, dy, ho, mi, [], [], ()) (optU (decide ((se.length : Int) > 0)) (.se se)) = (f, iv, ct, un, 0, en, mo, we, yd, md, dy, ho, mi, se, [], ()) := by
   cases se with
   | nil => rfl
   | cons a l =>
    have h : (((a :: l).length : Nat) : Int) > 0 := by rw [vG2]; omega
    simp only [dp h, optU, cond_true]; rfl
 rw [yF, a10]
 have a11 : fI (f, iv, ct, un, 0, en, mo, we, yd, md, dy, ho, mi, se, [], ()) (optU (decide ((po.length : Int) > 0)) (.po po)) = (f, iv, ct, un, 0, en, mo, we, yd, md, dy, ho, mi, se, po, ()) := by
   cases po with
   | nil => rfl
   | cons a l =>
    have h : (((a :: l).length : Nat) : Int) > 0 := by rw [vG2]; omega
    simp only [dp h, optU, cond_true]; rfl
 rw [yF, a11]
 have a12 : fI (f, iv, ct, un, 0, en, mo, we, yd, md, dy, ho, mi, se, po, ()) (optU (!decide (wk = 0)) (.wk wk)) = (f, iv, ct, un, wk, en, mo, we, yd, md, dy, ho, mi, se, po, ()) := by
   by_cases h : wk = 0
   ·subst h; rfl
   ·simp only [dn h, optU, kI2, cond_true]; rfl
 exact a12
end
theorem tK {b : Bool} {name v : List UInt8} (hn : (59 : UInt8) ∉ name) (hv : b = true → (59 : UInt8) ∉ v) : ∀ s ∈ opt b name v, (59 : UInt8) ∉ s := by
 cases b with
 | false => intro s h; cases h
 | true =>
  intro s h
  have h : s = name ++ 61 :: v := qH2.1 h
  rw [h, xG2, sG2]
  rintro (q | q | q)
  ·exact hn q
  ·exact absurd q (by decide)
  ·exact hv rfl q
theorem cR1 {c d : UInt8} (hcd : c ≠ d) : ∀ l : List (List UInt8), (∀ s ∈ l, c ∉ s) → c ∉ jn d l
 | [], _ => by simp [jn]
 | [a], h => h a (by simp)
 | a :: b :: l, h => by
  show c ∉ a ++ d :: jn d (b :: l)
  rw [xG2, sG2]
  rintro (q | q | q)
  ·exact h a (by simp) q
  ·exact hcd q
  ·exact cR1 hcd (b :: l) (fun s hs => h s (tG2 _ hs)) q
theorem vR (l : List Int) : (59 : UInt8) ∉ jn 44 (l.map Lib.itoa) := cR1 (by decide) _ fun s h => by
 obtain ⟨n, _, e⟩ := gH2.1 h
 rw [← e]
 exact iK (by decide) (by unfold dig; decide)
theorem kC2 (l : List Dy) : (59 : UInt8) ∉ jn 44 (l.map dt) := cR1 (by decide) _ fun s h => by
 obtain ⟨n, _, e⟩ := gH2.1 h
 rw [← e]
 exact jB2 59 (by decide) (by unfold dig; decide) (by decide) n
theorem pR1 : ∀ (l : List (List UInt8)), ∀ s ∈ l, s.length ≤ tot l
 | a :: l, s, h => by
  rcases sG2.1 h with e | h
  ·rw [e]; simp [tot]
  ·have := pR1 l s h
   simp only [tot]
   omega
section
variable (f iv ct un wk : Int) (en : Bool) (mo we yd md : List Int) (dy : List Dy) (ho mi se po : List Int)
theorem cU1 (hp : mayP f iv ct un wk en mo we yd md dy ho mi se po) : ∀ s ∈ wS f iv ct un wk en mo we yd md dy ho mi se po, (59 : UInt8) ∉ s := by
 obtain ⟨b1, b2, b3, _⟩ := pE1 f iv ct un wk en mo we yd md dy ho mi se po hp
 have hu : (59 : UInt8) ∉ utx un := fun q => by
  rcases (xW un b3).2.1 _ q with e | e
  ·exact absurd e (by decide)
  ·exact absurd e (by unfold dig; decide)
 have hi1 : (59 : UInt8) ∉ Lib.itoa iv := iK (by decide) (by unfold dig; decide)
 have hi2 : (59 : UInt8) ∉ Lib.itoa ct := iK (by decide) (by unfold dig; decide)
 have hw := gB2 59 (by decide) wk.toNat
 have hf := mD2 59 (by decide) (f - 1).toNat
 intro s hs
 unfold wS rest at hs
 rcases sG2.1 hs with e | hs
 ·rw [e]
  intro q
  rcases xG2.1 q with q | q
  ·exact absurd q (by decide)
  rcases sG2.1 q with q | q
  ·exact absurd q (by decide)
  ·exact hf q
 ·rcases xG2.1 hs with hs | hs
  ·exact tK (by decide) (fun _ => hi1) s hs
  rcases xG2.1 hs with hs | hs
  ·exact tK (by decide) (fun _ => hi2) s hs
  rcases xG2.1 hs with hs | hs
  ·exact tK (by decide) (fun _ => hu) s hs
  rcases xG2.1 hs with hs | hs
  ·exact tK (by decide) (fun _ => vR _) s hs
  rcases xG2.1 hs with hs | hs
  ·exact tK (by decide) (fun _ => vR _) s hs
  rcases xG2.1 hs with hs | hs
  ·exact tK (by decide) (fun _ => vR _) s hs
  rcases xG2.1 hs with hs | hs
  ·exact tK (by decide) (fun _ => vR _) s hs
  rcases xG2.1 hs with hs | hs
  ·exact tK (by decide) (fun _ => kC2 _) s hs
  rcases xG2.1 hs with hs | hs
  ·exact tK (by decide) (fun _ => vR _) s hs
  rcases xG2.1 hs with hs | hs
  ·exact tK (by decide) (fun _ => vR _) s hs
  rcases xG2.1 hs with hs | hs
  ·exact tK (by decide) (fun _ => vR _) s hs
  rcases xG2.1 hs with hs | hs
  ·exact tK (by decide) (fun _ => vR _) s hs
  ·exact tK (by decide) (fun _ => hw) s hs
end
theorem kB1 {r : Rl} (hs : aT r.2.2.2.2.2.2.1 r.2.2.2.2.2.2.2.1 r.2.2.2.2.2.2.2.2.1 r.2.2.2.2.2.2.2.2.2.1 r.2.2.2.2.2.2.2.2.2.2.1 r.2.2.2.2.2.2.2.2.2.2.2.1 r.2.2.2.2.2.2.2.2.2.2.2.2.1 r.2.2.2.2.2.2.2.2.2.2.2.2.2.1 r.2.2.2.2.2.2.2.2.2.2.2.2.2.2.1) (hM : pA.f r = some (true, ())) : mayP r.1 r.2.1 r.2.2.1 r.2.2.2.1 r.2.2.2.2.1 r.2.2.2.2.2.1 r.2.2.2.2.2.2.1 r.2.2.2.2.2.2.2.1 r.2.2.2.2.2.2.2.2.1 r.2.2.2.2.2.2.2.2.2.1 r.2.2.2.2.2.2.2.2.2.2.1 r.2.2.2.2.2.2.2.2.2.2.2.1 r.2.2.2.2.2.2.2.2.2.2.2.2.1 r.2.2.2.2.2.2.2.2.2.2.2.2.2.1 r.2.2.2.2.2.2.2.2.2.2.2.2.2.2.1 := by
 have g := oA1 r.1 r.2.1 r.2.2.1 r.2.2.2.1 r.2.2.2.2.1 r.2.2.2.2.2.1 r.2.2.2.2.2.2.1 r.2.2.2.2.2.2.2.1 r.2.2.2.2.2.2.2.2.1 r.2.2.2.2.2.2.2.2.2.1 r.2.2.2.2.2.2.2.2.2.2.1 r.2.2.2.2.2.2.2.2.2.2.2.1 r.2.2.2.2.2.2.2.2.2.2.2.2.1 r.2.2.2.2.2.2.2.2.2.2.2.2.2.1 r.2.2.2.2.2.2.2.2.2.2.2.2.2.2.1 hs
 refine Classical.byContradiction fun q => ?_
 have h1 : pA.f r = some (false, ()) := g.2 q
 rw [hM] at h1
 cases h1
noncomputable def pts (r : Rl) : List (List UInt8) := wS r.1 r.2.1 r.2.2.1 r.2.2.2.1 r.2.2.2.2.1 r.2.2.2.2.2.1 r.2.2.2.2.2.2.1 r.2.2.2.2.2.2.2.1 r.2.2.2.2.2.2.2.2.1 r.2.2.2.2.2.2.2.2.2.1 r.2.2.2.2.2.2.2.2.2.2.1 r.2.2.2.2.2.2.2.2.2.2.2.1 r.2.2.2.2.2.2.2.2.2.2.2.2.1 r.2.2.2.2.2.2.2.2.2.2.2.2.2.1 r.2.2.2.2.2.2.2.2.2.2.2.2.2.2.1
def jL (r : Rl) : Prop := aT r.2.2.2.2.2.2.1 r.2.2.2.2.2.2.2.1 r.2.2.2.2.2.2.2.2.1 r.2.2.2.2.2.2.2.2.2.1 r.2.2.2.2.2.2.2.2.2.2.1 r.2.2.2.2.2.2.2.2.2.2.2.1 r.2.2.2.2.2.2.2.2.2.2.2.2.1 r.2.2.2.2.2.2.2.2.2.2.2.2.2.1 r.2.2.2.2.2.2.2.2.2.2.2.2.2.2.1
theorem iF1 (r : Rl) (hs : jL r) (hM : pA.f r = some (true, ())) : yH.f r = some (mkS (jn 59 (pts r)), 0, ()) ∧ (jn 59 (pts r)).length ≤ 4096 := by
 have hp := kB1 hs hM
 obtain ⟨f, iv, ct, un, wk, en, mo, we, yd, md, dy, ho, mi, se, po, ⟨⟩⟩ := r
 dsimp only at hp
 exact iY f iv ct un wk en mo we yd md dy ho mi se po hM hp
theorem jV1 (r : Rl) (hs : jL r) (hM : pA.f r = some (true, ())) :
  yH.f r = some (mkS (jn 59 (pts r)), 0, ()) ∧ (jn 59 (pts r)).length ≤ 4096 ∧ pts r ≠ [] ∧ (∀ s ∈ pts r, (59 : UInt8) ∉ s) ∧ sh60 r ∧
   ∃ us, All2 Good (pts r) us ∧ (keys us).Nodup ∧ FREQ ∈ keys us ∧ fI (0, 1, 0, 0, 0, false, [], [], [], [], [], [], [], [], [], ()) us = r := by
 have hp := kB1 hs hM
 obtain ⟨f, iv, ct, un, wk, en, mo, we, yd, md, dy, ho, mi, se, po, ⟨⟩⟩ := r
 dsimp only at hp
 obtain ⟨h1, h2⟩ := iY f iv ct un wk en mo we yd md dy ho mi se po hM hp
 have hk := zT1 f iv ct un wk en mo we yd md dy ho mi se po
 obtain ⟨_, _, _, b4, b5, b6, b7, b8, b9, b10, b11, b12⟩ := pE1 f iv ct un wk en mo we yd md dy ho mi se po hp
 exact ⟨h1, h2, by unfold pts wS; simp, cU1 f iv ct un wk en mo we yd md dy ho mi se po hp, ⟨b4.1, b5.1, b6.1, b7.1, b8.1, b9.1, b10.1, b11.1, b12.1⟩,
  ups f iv ct un wk en mo we yd md dy ho mi se po, tL1 f iv ct un wk en mo we yd md dy ho mi se po hp, hk.1, hk.2, fC2 f iv ct un wk en mo we yd md dy ho mi se po hp⟩
theorem pM1 (r : Rl) (hs : jL r) (hM : pA.f r = some (true, ())) : qA.f (mkS (jn 59 (pts r))) = some (r, 0, 0, ()) := by
 obtain ⟨_, h2, h3, h4, _, us, h5, h6, h7, h8⟩ := jV1 r hs hM
 have hl := xQ1 59 (pts r) h3
 have hp : 0 < (pts r).length := aJ2.2 h3
 rw [hI1 _ h2, kV 59 _ h3 h4]
 have := (vD1 (pts r) (by omega) (fun s hs => by have := pR1 _ s hs; omega) _ 0 (0, 1, 0, 0, 0, false, [], [], [], [], [], [], [], [], [], ()) [] rfl (aH2 _) (zG2 _)).1 us (by rw [yH2]; exact h5) (fun u _ => by simp) h6
 rw [this, h8]
 unfold fin
 rw [if_pos (by rw [eI2]; exact h7), hM]
 rfl
end Go.GV.YtidgapgbnlcjgaaGreatDoor
