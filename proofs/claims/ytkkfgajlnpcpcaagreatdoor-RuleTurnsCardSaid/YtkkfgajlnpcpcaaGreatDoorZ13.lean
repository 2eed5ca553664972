/-
Part of the words that the laws of this seat are proved with: no statement of its own, no conditions.
-/
import Derived.Test.YtkkfgajlnpcpcaaGreatDoorZ12
set_option linter.unusedVariables false
set_option linter.unusedSimpArgs false
namespace Go.GV.YtkkfgajlnpcpcaaGreatDoor
open Go.Proofs
inductive Up where
 | fr (x : Int)
 | iv (x : Int)
 | ct (x : Int)
 | un (x : Int)
 | dy (x : List Dy)
 | wk (x : Int)
 | mo (x : List Int)
 | we (x : List Int)
 | yd (x : List Int)
 | md (x : List Int)
 | ho (x : List Int)
 | mi (x : List Int)
 | se (x : List Int)
 | po (x : List Int)
def Up.key : Up → List UInt8
 | .fr _ => [70, 82, 69, 81]
 | .iv _ => [73, 78, 84, 69, 82, 86, 65, 76]
 | .ct _ => [67, 79, 85, 78, 84]
 | .un _ => [85, 78, 84, 73, 76]
 | .dy _ => [66, 89, 68, 65, 89]
 | .wk _ => [87, 75, 83, 84]
 | .mo _ => [66, 89, 77, 79, 78, 84, 72]
 | .we _ => [66, 89, 87, 69, 69, 75, 78, 79]
 | .yd _ => [66, 89, 89, 69, 65, 82, 68, 65, 89]
 | .md _ => [66, 89, 77, 79, 78, 84, 72, 68, 65, 89]
 | .ho _ => [66, 89, 72, 79, 85, 82]
 | .mi _ => [66, 89, 77, 73, 78, 85, 84, 69]
 | .se _ => [66, 89, 83, 69, 67, 79, 78, 68]
 | .po _ => [66, 89, 83, 69, 84, 80, 79, 83]
def Up.ap : Up → Rl → Rl
 | .fr x, (_, r1, r2, r3, r4, r5, r6, r7, r8, r9, r10, r11, r12, r13, r14, ()) => (x, r1, r2, r3, r4, r5, r6, r7, r8, r9, r10, r11, r12, r13, r14, ())
 | .iv x, (r0, _, r2, r3, r4, r5, r6, r7, r8, r9, r10, r11, r12, r13, r14, ()) => (r0, x, r2, r3, r4, r5, r6, r7, r8, r9, r10, r11, r12, r13, r14, ())
 | .ct x, (r0, r1, _, r3, r4, r5, r6, r7, r8, r9, r10, r11, r12, r13, r14, ()) => (r0, r1, x, r3, r4, r5, r6, r7, r8, r9, r10, r11, r12, r13, r14, ())
 | .un x, (r0, r1, r2, _, r4, _, r6, r7, r8, r9, r10, r11, r12, r13, r14, ()) => (r0, r1, r2, x, r4, true, r6, r7, r8, r9, r10, r11, r12, r13, r14, ())
 | .dy x, (r0, r1, r2, r3, r4, r5, r6, r7, r8, r9, _, r11, r12, r13, r14, ()) => (r0, r1, r2, r3, r4, r5, r6, r7, r8, r9, x, r11, r12, r13, r14, ())
 | .wk x, (r0, r1, r2, r3, _, r5, r6, r7, r8, r9, r10, r11, r12, r13, r14, ()) => (r0, r1, r2, r3, x, r5, r6, r7, r8, r9, r10, r11, r12, r13, r14, ())
 | .mo x, (r0, r1, r2, r3, r4, r5, _, r7, r8, r9, r10, r11, r12, r13, r14, ()) => (r0, r1, r2, r3, r4, r5, x, r7, r8, r9, r10, r11, r12, r13, r14, ())
 | .we x, (r0, r1, r2, r3, r4, r5, r6, _, r8, r9, r10, r11, r12, r13, r14, ()) => (r0, r1, r2, r3, r4, r5, r6, x, r8, r9, r10, r11, r12, r13, r14, ())
 | .yd x, (r0, r1, r2, r3, r4, r5, r6, r7, _, r9, r10, r11, r12, r13, r14, ()) => (r0, r1, r2, r3, r4, r5, r6, r7, x, r9, r10, r11, r12, r13, r14, ())
 | .md x, (r0, r1, r2, r3, r4, r5, r6, r7, r8, _, r10, r11, r12, r13, r14, ()) => (r0, r1, r2, r3, r4, r5, r6, r7, r8, x, r10, r11, r12, r13, r14, ())
 | .ho x, (r0, r1, r2, r3, r4, r5, r6, r7, r8, r9, r10, _, r12, r13, r14, ()) => (r0, r1, r2, r3, r4, r5, r6, r7, r8, r9, r10, x, r12, r13, r14, ())
 | .mi x, (r0, r1, r2, r3, r4, r5, r6, r7, r8, r9, r10, r11, _, r13, r14, ()) => (r0, r1, r2, r3, r4, r5, r6, r7, r8, r9, r10, r11, x, r13, r14, ())
 | .se x, (r0, r1, r2, r3, r4, r5, r6, r7, r8, r9, r10, r11, r12, _, r14, ()) => (r0, r1, r2, r3, r4, r5, r6, r7, r8, r9, r10, r11, r12, x, r14, ())
 | .po x, (r0, r1, r2, r3, r4, r5, r6, r7, r8, r9, r10, r11, r12, r13, _, ()) => (r0, r1, r2, r3, r4, r5, r6, r7, r8, r9, r10, r11, r12, r13, x, ())
theorem comm_fr (x : Int) (b : Up) (h : (Up.fr x).key ≠ b.key) (r : Rl) : (Up.fr x).ap (b.ap r) = b.ap ((Up.fr x).ap r) := by
 obtain ⟨r0, r1, r2, r3, r4, r5, r6, r7, r8, r9, r10, r11, r12, r13, r14, ⟨⟩⟩ := r
 cases b
 ·exact absurd rfl h
 ·rfl
 ·rfl
 ·rfl
 ·rfl
 ·rfl
 ·rfl
 ·rfl
 ·rfl
 ·rfl
 ·rfl
 ·rfl
 ·rfl
 ·rfl
theorem comm_iv (x : Int) (b : Up) (h : (Up.iv x).key ≠ b.key) (r : Rl) : (Up.iv x).ap (b.ap r) = b.ap ((Up.iv x).ap r) := by
 obtain ⟨r0, r1, r2, r3, r4, r5, r6, r7, r8, r9, r10, r11, r12, r13, r14, ⟨⟩⟩ := r
 cases b
 ·rfl
 ·exact absurd rfl h
 ·rfl
 ·rfl
 ·rfl
 ·rfl
 ·rfl
 ·rfl
 ·rfl
 ·rfl
 ·rfl
 ·rfl
 ·rfl
 ·rfl
theorem comm_ct (x : Int) (b : Up) (h : (Up.ct x).key ≠ b.key) (r : Rl) : (Up.ct x).ap (b.ap r) = b.ap ((Up.ct x).ap r) := by
 obtain ⟨r0, r1, r2, r3, r4, r5, r6, r7, r8, r9, r10, r11, r12, r13, r14, ⟨⟩⟩ := r
 cases b
 ·rfl
 ·rfl
 ·exact absurd rfl h
 ·rfl
 ·rfl
 ·rfl
 ·rfl
 ·rfl
 ·rfl
 ·rfl
 ·rfl
 ·rfl
 ·rfl
 ·rfl
theorem comm_un (x : Int) (b : Up) (h : (Up.un x).key ≠ b.key) (r : Rl) : (Up.un x).ap (b.ap r) = b.ap ((Up.un x).ap r) := by
 obtain ⟨r0, r1, r2, r3, r4, r5, r6, r7, r8, r9, r10, r11, r12, r13, r14, ⟨⟩⟩ := r
 cases b
 ·rfl
 ·rfl
 ·rfl
 ·exact absurd rfl h
 ·rfl
 ·rfl
 ·rfl
 ·rfl
 ·rfl
 ·rfl
 ·rfl
 ·rfl
 ·rfl
 ·rfl
theorem comm_dy (x : List Dy) (b : Up) (h : (Up.dy x).key ≠ b.key) (r : Rl) : (Up.dy x).ap (b.ap r) = b.ap ((Up.dy x).ap r) := by
 obtain ⟨r0, r1, r2, r3, r4, r5, r6, r7, r8, r9, r10, r11, r12, r13, r14, ⟨⟩⟩ := r
 cases b
 ·rfl
 ·rfl
 ·rfl
 ·rfl
 ·exact absurd rfl h
 ·rfl
 ·rfl
 ·rfl
 ·rfl
 ·rfl
 ·rfl
 ·rfl
 ·rfl
 ·rfl
theorem comm_wk (x : Int) (b : Up) (h : (Up.wk x).key ≠ b.key) (r : Rl) : (Up.wk x).ap (b.ap r) = b.ap ((Up.wk x).ap r) := by
 obtain ⟨r0, r1, r2, r3, r4, r5, r6, r7, r8, r9, r10, r11, r12, r13, r14, ⟨⟩⟩ := r
 cases b
 ·rfl
 ·rfl
 ·rfl
 ·rfl
 ·rfl
 ·exact absurd rfl h
 ·rfl
 ·rfl
 ·rfl
 ·rfl
 ·rfl
 ·rfl
 ·rfl
 ·rfl
theorem comm_mo (x : List Int) (b : Up) (h : (Up.mo x).key ≠ b.key) (r : Rl) : (Up.mo x).ap (b.ap r) = b.ap ((Up.mo x).ap r) := by
 obtain ⟨r0, r1, r2, r3, r4, r5, r6, r7, r8, r9, r10, r11, r12, r13, r14, ⟨⟩⟩ := r
 cases b
 ·rfl
 ·rfl
 ·rfl
 ·rfl
 ·rfl
 ·rfl
 ·exact absurd rfl h
 ·rfl
 ·rfl
 ·rfl
 ·rfl
 ·rfl
 ·rfl
 ·rfl
theorem comm_we (x : List Int) (b : Up) (h : (Up.we x).key ≠ b.key) (r : Rl) : (Up.we x).ap (b.ap r) = b.ap ((Up.we x).ap r) := by
 obtain ⟨r0, r1, r2, r3, r4, r5, r6, r7, r8, r9, r10, r11, r12, r13, r14, ⟨⟩⟩ := r
 cases b
 ·rfl
 ·rfl
 ·rfl
 ·rfl
 ·rfl
 ·rfl
 ·rfl
 ·exact absurd rfl h
 ·rfl
 ·rfl
 ·rfl
 ·rfl
 ·rfl
 ·rfl
theorem comm_yd (x : List Int) (b : Up) (h : (Up.yd x).key ≠ b.key) (r : Rl) : (Up.yd x).ap (b.ap r) = b.ap ((Up.yd x).ap r) := by
 obtain ⟨r0, r1, r2, r3, r4, r5, r6, r7, r8, r9, r10, r11, r12, r13, r14, ⟨⟩⟩ := r
 cases b
 ·rfl
 ·rfl
 ·rfl
 ·rfl
 ·rfl
 ·rfl
 ·rfl
 ·rfl
 ·exact absurd rfl h
 ·rfl
 ·rfl
 ·rfl
 ·rfl
 ·rfl
theorem comm_md (x : List Int) (b : Up) (h : (Up.md x).key ≠ b.key) (r : Rl) : (Up.md x).ap (b.ap r) = b.ap ((Up.md x).ap r) := by
 obtain ⟨r0, r1, r2, r3, r4, r5, r6, r7, r8, r9, r10, r11, r12, r13, r14, ⟨⟩⟩ := r
 cases b
 ·rfl
 ·rfl
 ·rfl
 ·rfl
 ·rfl
 ·rfl
 ·rfl
 ·rfl
 ·rfl
 ·exact absurd rfl h
 ·rfl
 ·rfl
 ·rfl
 ·rfl
theorem comm_ho (x : List Int) (b : Up) (h : (Up.ho x).key ≠ b.key) (r : Rl) : (Up.ho x).ap (b.ap r) = b.ap ((Up.ho x).ap r) := by
 obtain ⟨r0, r1, r2, r3, r4, r5, r6, r7, r8, r9, r10, r11, r12, r13, r14, ⟨⟩⟩ := r
 cases b
 ·rfl
 ·rfl
 ·rfl
 ·rfl
 ·rfl
 ·rfl
 ·rfl
 ·rfl
 ·rfl
 ·rfl
 ·exact absurd rfl h
 ·rfl
 ·rfl
 ·rfl
theorem comm_mi (x : List Int) (b : Up) (h : (Up.mi x).key ≠ b.key) (r : Rl) : (Up.mi x).ap (b.ap r) = b.ap ((Up.mi x).ap r) := by
 obtain ⟨r0, r1, r2, r3, r4, r5, r6, r7, r8, r9, r10, r11, r12, r13, r14, ⟨⟩⟩ := r
 cases b
 ·rfl
 ·rfl
 ·rfl
 ·rfl
 ·rfl
 ·rfl
 ·rfl
 ·rfl
 ·rfl
 ·rfl
 ·rfl
 ·exact absurd rfl h
 ·rfl
 ·rfl
theorem comm_se (x : List Int) (b : Up) (h : (Up.se x).key ≠ b.key) (r : Rl) : (Up.se x).ap (b.ap r) = b.ap ((Up.se x).ap r) := by
 obtain ⟨r0, r1, r2, r3, r4, r5, r6, r7, r8, r9, r10, r11, r12, r13, r14, ⟨⟩⟩ := r
 cases b
 ·rfl
 ·rfl
 ·rfl
 ·rfl
 ·rfl
 ·rfl
 ·rfl
 ·rfl
 ·rfl
 ·rfl
 ·rfl
 ·rfl
 ·exact absurd rfl h
 ·rfl
theorem comm_po (x : List Int) (b : Up) (h : (Up.po x).key ≠ b.key) (r : Rl) : (Up.po x).ap (b.ap r) = b.ap ((Up.po x).ap r) := by
 obtain ⟨r0, r1, r2, r3, r4, r5, r6, r7, r8, r9, r10, r11, r12, r13, r14, ⟨⟩⟩ := r
 cases b
 ·rfl
 ·rfl
 ·rfl
 ·rfl
 ·rfl
 ·rfl
 ·rfl
 ·rfl
 ·rfl
 ·rfl
 ·rfl
 ·rfl
 ·rfl
 ·exact absurd rfl h
theorem up_comm (a b : Up) (h : a.key ≠ b.key) (r : Rl) : a.ap (b.ap r) = b.ap (a.ap r) := by
 cases a with
 | fr x => exact comm_fr x b h r
 | iv x => exact comm_iv x b h r
 | ct x => exact comm_ct x b h r
 | un x => exact comm_un x b h r
 | dy x => exact comm_dy x b h r
 | wk x => exact comm_wk x b h r
 | mo x => exact comm_mo x b h r
 | we x => exact comm_we x b h r
 | yd x => exact comm_yd x b h r
 | md x => exact comm_md x b h r
 | ho x => exact comm_ho x b h r
 | mi x => exact comm_mi x b h r
 | se x => exact comm_se x b h r
 | po x => exact comm_po x b h r
def PartU (name v : List UInt8) : Prop := (∃ u : Up, u.key = name ∧ ∀ r : Rl, rule_part.f r (mkS name) (mkS v) = some (true, u.ap r, ())) ∨ (∀ r : Rl, ∃ r1, rule_part.f r (mkS name) (mkS v) = some (false, r1, ()))
theorem gen_up {α : Type} (name v : List UInt8) (hv : v.length ≤ 50000) (X : Option α) (g : α → Bool) (u : α → Up) (hk : ∀ a, (u a).key = name)
  (h : ∀ r : Rl, rule_part.f r (mkS name) (mkS v) = X.bind fun t => some (g t, (u t).ap r, ())) : PartU name v := by
 cases X with
 | none =>
  have h0 := h zR
  rcases part_same 0 0 0 0 0 false [] [] [] [] [] [] [] [] [] name v hv with ⟨r', e, _⟩ | ⟨r1, r2, e, _⟩
  ·rw [show zR = (0, 0, 0, 0, 0, false, [], [], [], [], [], [], [], [], [], ()) from rfl, e] at h0
   cases h0
  ·rw [show zR = (0, 0, 0, 0, 0, false, [], [], [], [], [], [], [], [], [], ()) from rfl, e] at h0
   cases h0
 | some a =>
  cases hg : g a with
  | true => exact .inl ⟨u a, hk a, fun r => by rw [h r, Option.bind_some, hg]⟩
  | false => exact .inr fun r => ⟨(u a).ap r, by rw [h r, Option.bind_some, hg]⟩
theorem eqp_FREQ (v : List UInt8) (r : Rl) : rule_part.f r (mkS [70, 82, 69, 81]) (mkS v) = ((slices_Index_string_string.f (fw.map mkS) (mkS v))).bind fun t => some ((fun t => decide (IntKind.i64.wrap (t.1 + 1) > 0)) t, (show Up from (fun t => .fr (IntKind.i64.wrap (t.1 + 1))) t).ap r, ()) := by
 obtain ⟨r0, r1, r2, r3, r4, r5, r6, r7, r8, r9, r10, r11, r12, r13, r14, ⟨⟩⟩ := r
 rw [rule_part.f_eq]
 simp (disch := decide) only [beq_S, nm0, nm1, nm2, nm3, nm4, nm5, nm6, nm7, nm8, nm9, nm10, nm11, nm12, nm13, dm, dp, dn, cond_true, cond_false]
 rw [words_eq]
 rfl
theorem up_FREQ (v : List UInt8) (hv : v.length ≤ 50000) : PartU [70, 82, 69, 81] v := gen_up [70, 82, 69, 81] v hv ((slices_Index_string_string.f (fw.map mkS) (mkS v))) (fun t => decide (IntKind.i64.wrap (t.1 + 1) > 0)) (fun t => .fr (IntKind.i64.wrap (t.1 + 1))) (fun _ => rfl) (eqp_FREQ v)
theorem eqp_INTERVAL (v : List UInt8) (r : Rl) : rule_part.f r (mkS [73, 78, 84, 69, 82, 86, 65, 76]) (mkS v) = (rule_number.f (mkS v)).bind fun t => some ((fun t => t.2.1) t, (show Up from (fun t => .iv t.1) t).ap r, ()) := by
 obtain ⟨r0, r1, r2, r3, r4, r5, r6, r7, r8, r9, r10, r11, r12, r13, r14, ⟨⟩⟩ := r
 rw [rule_part.f_eq]
 simp (disch := decide) only [beq_S, nm0, nm1, nm2, nm3, nm4, nm5, nm6, nm7, nm8, nm9, nm10, nm11, nm12, nm13, dm, dp, dn, cond_true, cond_false]
 rfl
theorem up_INTERVAL (v : List UInt8) (hv : v.length ≤ 50000) : PartU [73, 78, 84, 69, 82, 86, 65, 76] v := gen_up [73, 78, 84, 69, 82, 86, 65, 76] v hv (rule_number.f (mkS v)) (fun t => t.2.1) (fun t => .iv t.1) (fun _ => rfl) (eqp_INTERVAL v)
theorem eqp_COUNT (v : List UInt8) (r : Rl) : rule_part.f r (mkS [67, 79, 85, 78, 84]) (mkS v) = (rule_number.f (mkS v)).bind fun t => some ((fun t => t.2.1) t, (show Up from (fun t => .ct t.1) t).ap r, ()) := by
 obtain ⟨r0, r1, r2, r3, r4, r5, r6, r7, r8, r9, r10, r11, r12, r13, r14, ⟨⟩⟩ := r
 rw [rule_part.f_eq]
 simp (disch := decide) only [beq_S, nm0, nm1, nm2, nm3, nm4, nm5, nm6, nm7, nm8, nm9, nm10, nm11, nm12, nm13, dm, dp, dn, cond_true, cond_false]
 rfl
theorem up_COUNT (v : List UInt8) (hv : v.length ≤ 50000) : PartU [67, 79, 85, 78, 84] v := gen_up [67, 79, 85, 78, 84] v hv (rule_number.f (mkS v)) (fun t => t.2.1) (fun t => .ct t.1) (fun _ => rfl) (eqp_COUNT v)
theorem eqp_UNTIL (v : List UInt8) (r : Rl) : rule_part.f r (mkS [85, 78, 84, 73, 76]) (mkS v) = (stamp_Parse.f (mkS v)).bind fun t => some ((fun t => decide (t.2.1 = 0)) t, (show Up from (fun t => .un t.1) t).ap r, ()) := by
 obtain ⟨r0, r1, r2, r3, r4, r5, r6, r7, r8, r9, r10, r11, r12, r13, r14, ⟨⟩⟩ := r
 rw [rule_part.f_eq]
 simp (disch := decide) only [beq_S, nm0, nm1, nm2, nm3, nm4, nm5, nm6, nm7, nm8, nm9, nm10, nm11, nm12, nm13, dm, dp, dn, cond_true, cond_false]
 rfl
theorem up_UNTIL (v : List UInt8) (hv : v.length ≤ 50000) : PartU [85, 78, 84, 73, 76] v := gen_up [85, 78, 84, 73, 76] v hv (stamp_Parse.f (mkS v)) (fun t => decide (t.2.1 = 0)) (fun t => .un t.1) (fun _ => rfl) (eqp_UNTIL v)
theorem eqp_BYDAY (v : List UInt8) (r : Rl) : rule_part.f r (mkS [66, 89, 68, 65, 89]) (mkS v) = (rule_dayList.f (mkS v)).bind fun t => some ((fun t => t.2.1) t, (show Up from (fun t => .dy t.1) t).ap r, ()) := by
 obtain ⟨r0, r1, r2, r3, r4, r5, r6, r7, r8, r9, r10, r11, r12, r13, r14, ⟨⟩⟩ := r
 rw [rule_part.f_eq]
 simp (disch := decide) only [beq_S, nm0, nm1, nm2, nm3, nm4, nm5, nm6, nm7, nm8, nm9, nm10, nm11, nm12, nm13, dm, dp, dn, cond_true, cond_false]
 rfl
theorem up_BYDAY (v : List UInt8) (hv : v.length ≤ 50000) : PartU [66, 89, 68, 65, 89] v := gen_up [66, 89, 68, 65, 89] v hv (rule_dayList.f (mkS v)) (fun t => t.2.1) (fun t => .dy t.1) (fun _ => rfl) (eqp_BYDAY v)
theorem eqp_WKST (v : List UInt8) (r : Rl) : rule_part.f r (mkS [87, 75, 83, 84]) (mkS v) = ((slices_Index_string_string.f (wd.map mkS) (mkS v))).bind fun t => some ((fun t => decide (t.1 ≥ 0)) t, (show Up from (fun t => .wk t.1) t).ap r, ()) := by
 obtain ⟨r0, r1, r2, r3, r4, r5, r6, r7, r8, r9, r10, r11, r12, r13, r14, ⟨⟩⟩ := r
 rw [rule_part.f_eq]
 simp (disch := decide) only [beq_S, nm0, nm1, nm2, nm3, nm4, nm5, nm6, nm7, nm8, nm9, nm10, nm11, nm12, nm13, dm, dp, dn, cond_true, cond_false]
 rw [weekdays_eq]
 rfl
theorem up_WKST (v : List UInt8) (hv : v.length ≤ 50000) : PartU [87, 75, 83, 84] v := gen_up [87, 75, 83, 84] v hv ((slices_Index_string_string.f (wd.map mkS) (mkS v))) (fun t => decide (t.1 ≥ 0)) (fun t => .wk t.1) (fun _ => rfl) (eqp_WKST v)
theorem eqp_BYMONTH (v : List UInt8) (r : Rl) : rule_part.f r (mkS [66, 89, 77, 79, 78, 84, 72]) (mkS v) = (rule_list.f (mkS v)).bind fun t => some ((fun t => t.2.1) t, (show Up from (fun t => .mo t.1) t).ap r, ()) := by
 obtain ⟨r0, r1, r2, r3, r4, r5, r6, r7, r8, r9, r10, r11, r12, r13, r14, ⟨⟩⟩ := r
 rw [rule_part.f_eq]
 simp (disch := decide) only [beq_S, nm0, nm1, nm2, nm3, nm4, nm5, nm6, nm7, nm8, nm9, nm10, nm11, nm12, nm13, dm, dp, dn, cond_true, cond_false]
 rw [rule_part.l1_eq]
 rfl
theorem up_BYMONTH (v : List UInt8) (hv : v.length ≤ 50000) : PartU [66, 89, 77, 79, 78, 84, 72] v := gen_up [66, 89, 77, 79, 78, 84, 72] v hv (rule_list.f (mkS v)) (fun t => t.2.1) (fun t => .mo t.1) (fun _ => rfl) (eqp_BYMONTH v)
theorem eqp_BYWEEKNO (v : List UInt8) (r : Rl) : rule_part.f r (mkS [66, 89, 87, 69, 69, 75, 78, 79]) (mkS v) = (rule_list.f (mkS v)).bind fun t => some ((fun t => t.2.1) t, (show Up from (fun t => .we t.1) t).ap r, ()) := by
 obtain ⟨r0, r1, r2, r3, r4, r5, r6, r7, r8, r9, r10, r11, r12, r13, r14, ⟨⟩⟩ := r
 rw [rule_part.f_eq]
 simp (disch := decide) only [beq_S, nm0, nm1, nm2, nm3, nm4, nm5, nm6, nm7, nm8, nm9, nm10, nm11, nm12, nm13, dm, dp, dn, cond_true, cond_false]
 rw [rule_part.l1a_eq]
 rfl
theorem up_BYWEEKNO (v : List UInt8) (hv : v.length ≤ 50000) : PartU [66, 89, 87, 69, 69, 75, 78, 79] v := gen_up [66, 89, 87, 69, 69, 75, 78, 79] v hv (rule_list.f (mkS v)) (fun t => t.2.1) (fun t => .we t.1) (fun _ => rfl) (eqp_BYWEEKNO v)
theorem eqp_BYYEARDAY (v : List UInt8) (r : Rl) : rule_part.f r (mkS [66, 89, 89, 69, 65, 82, 68, 65, 89]) (mkS v) = (rule_list.f (mkS v)).bind fun t => some ((fun t => t.2.1) t, (show Up from (fun t => .yd t.1) t).ap r, ()) := by
 obtain ⟨r0, r1, r2, r3, r4, r5, r6, r7, r8, r9, r10, r11, r12, r13, r14, ⟨⟩⟩ := r
 rw [rule_part.f_eq]
 simp (disch := decide) only [beq_S, nm0, nm1, nm2, nm3, nm4, nm5, nm6, nm7, nm8, nm9, nm10, nm11, nm12, nm13, dm, dp, dn, cond_true, cond_false]
 rw [rule_part.l1b_eq]
 rfl
theorem up_BYYEARDAY (v : List UInt8) (hv : v.length ≤ 50000) : PartU [66, 89, 89, 69, 65, 82, 68, 65, 89] v := gen_up [66, 89, 89, 69, 65, 82, 68, 65, 89] v hv (rule_list.f (mkS v)) (fun t => t.2.1) (fun t => .yd t.1) (fun _ => rfl) (eqp_BYYEARDAY v)
theorem eqp_BYMONTHDAY (v : List UInt8) (r : Rl) : rule_part.f r (mkS [66, 89, 77, 79, 78, 84, 72, 68, 65, 89]) (mkS v) = (rule_list.f (mkS v)).bind fun t => some ((fun t => t.2.1) t, (show Up from (fun t => .md t.1) t).ap r, ()) := by
 obtain ⟨r0, r1, r2, r3, r4, r5, r6, r7, r8, r9, r10, r11, r12, r13, r14, ⟨⟩⟩ := r
 rw [rule_part.f_eq]
 simp (disch := decide) only [beq_S, nm0, nm1, nm2, nm3, nm4, nm5, nm6, nm7, nm8, nm9, nm10, nm11, nm12, nm13, dm, dp, dn, cond_true, cond_false]
 rw [rule_part.l1c_eq]
 rfl
theorem up_BYMONTHDAY (v : List UInt8) (hv : v.length ≤ 50000) : PartU [66, 89, 77, 79, 78, 84, 72, 68, 65, 89] v := gen_up [66, 89, 77, 79, 78, 84, 72, 68, 65, 89] v hv (rule_list.f (mkS v)) (fun t => t.2.1) (fun t => .md t.1) (fun _ => rfl) (eqp_BYMONTHDAY v)
theorem eqp_BYHOUR (v : List UInt8) (r : Rl) : rule_part.f r (mkS [66, 89, 72, 79, 85, 82]) (mkS v) = (rule_list.f (mkS v)).bind fun t => some ((fun t => t.2.1) t, (show Up from (fun t => .ho t.1) t).ap r, ()) := by
 obtain ⟨r0, r1, r2, r3, r4, r5, r6, r7, r8, r9, r10, r11, r12, r13, r14, ⟨⟩⟩ := r
 rw [rule_part.f_eq]
 simp (disch := decide) only [beq_S, nm0, nm1, nm2, nm3, nm4, nm5, nm6, nm7, nm8, nm9, nm10, nm11, nm12, nm13, dm, dp, dn, cond_true, cond_false]
 rw [rule_part.l1d_eq]
 rfl
theorem up_BYHOUR (v : List UInt8) (hv : v.length ≤ 50000) : PartU [66, 89, 72, 79, 85, 82] v := gen_up [66, 89, 72, 79, 85, 82] v hv (rule_list.f (mkS v)) (fun t => t.2.1) (fun t => .ho t.1) (fun _ => rfl) (eqp_BYHOUR v)
theorem eqp_BYMINUTE (v : List UInt8) (r : Rl) : rule_part.f r (mkS [66, 89, 77, 73, 78, 85, 84, 69]) (mkS v) = (rule_list.f (mkS v)).bind fun t => some ((fun t => t.2.1) t, (show Up from (fun t => .mi t.1) t).ap r, ()) := by
 obtain ⟨r0, r1, r2, r3, r4, r5, r6, r7, r8, r9, r10, r11, r12, r13, r14, ⟨⟩⟩ := r
 rw [rule_part.f_eq]
 simp (disch := decide) only [beq_S, nm0, nm1, nm2, nm3, nm4, nm5, nm6, nm7, nm8, nm9, nm10, nm11, nm12, nm13, dm, dp, dn, cond_true, cond_false]
 rw [rule_part.l1e_eq]
 rfl
theorem up_BYMINUTE (v : List UInt8) (hv : v.length ≤ 50000) : PartU [66, 89, 77, 73, 78, 85, 84, 69] v := gen_up [66, 89, 77, 73, 78, 85, 84, 69] v hv (rule_list.f (mkS v)) (fun t => t.2.1) (fun t => .mi t.1) (fun _ => rfl) (eqp_BYMINUTE v)
theorem eqp_BYSECOND (v : List UInt8) (r : Rl) : rule_part.f r (mkS [66, 89, 83, 69, 67, 79, 78, 68]) (mkS v) = (rule_list.f (mkS v)).bind fun t => some ((fun t => t.2.1) t, (show Up from (fun t => .se t.1) t).ap r, ()) := by
 obtain ⟨r0, r1, r2, r3, r4, r5, r6, r7, r8, r9, r10, r11, r12, r13, r14, ⟨⟩⟩ := r
 rw [rule_part.f_eq]
 simp (disch := decide) only [beq_S, nm0, nm1, nm2, nm3, nm4, nm5, nm6, nm7, nm8, nm9, nm10, nm11, nm12, nm13, dm, dp, dn, cond_true, cond_false]
 rw [rule_part.l1f_eq]
 rfl
theorem up_BYSECOND (v : List UInt8) (hv : v.length ≤ 50000) : PartU [66, 89, 83, 69, 67, 79, 78, 68] v := gen_up [66, 89, 83, 69, 67, 79, 78, 68] v hv (rule_list.f (mkS v)) (fun t => t.2.1) (fun t => .se t.1) (fun _ => rfl) (eqp_BYSECOND v)
theorem eqp_BYSETPOS (v : List UInt8) (r : Rl) : rule_part.f r (mkS [66, 89, 83, 69, 84, 80, 79, 83]) (mkS v) = (rule_list.f (mkS v)).bind fun t => some ((fun t => t.2.1) t, (show Up from (fun t => .po t.1) t).ap r, ()) := by
 obtain ⟨r0, r1, r2, r3, r4, r5, r6, r7, r8, r9, r10, r11, r12, r13, r14, ⟨⟩⟩ := r
 rw [rule_part.f_eq]
 simp (disch := decide) only [beq_S, nm0, nm1, nm2, nm3, nm4, nm5, nm6, nm7, nm8, nm9, nm10, nm11, nm12, nm13, dm, dp, dn, cond_true, cond_false]
 rw [rule_part.l1g_eq]
 rfl
theorem up_BYSETPOS (v : List UInt8) (hv : v.length ≤ 50000) : PartU [66, 89, 83, 69, 84, 80, 79, 83] v := gen_up [66, 89, 83, 69, 84, 80, 79, 83] v hv (rule_list.f (mkS v)) (fun t => t.2.1) (fun t => .po t.1) (fun _ => rfl) (eqp_BYSETPOS v)
theorem part_up (name v : List UInt8) (hv : v.length ≤ 50000) : PartU name v := by
 by_cases h0 : name = [70, 82, 69, 81]
 ·subst h0; exact up_FREQ v hv
 by_cases h1 : name = [73, 78, 84, 69, 82, 86, 65, 76]
 ·subst h1; exact up_INTERVAL v hv
 by_cases h2 : name = [67, 79, 85, 78, 84]
 ·subst h2; exact up_COUNT v hv
 by_cases h3 : name = [85, 78, 84, 73, 76]
 ·subst h3; exact up_UNTIL v hv
 by_cases h4 : name = [66, 89, 68, 65, 89]
 ·subst h4; exact up_BYDAY v hv
 by_cases h5 : name = [87, 75, 83, 84]
 ·subst h5; exact up_WKST v hv
 by_cases h6 : name = [66, 89, 77, 79, 78, 84, 72]
 ·subst h6; exact up_BYMONTH v hv
 by_cases h7 : name = [66, 89, 87, 69, 69, 75, 78, 79]
 ·subst h7; exact up_BYWEEKNO v hv
 by_cases h8 : name = [66, 89, 89, 69, 65, 82, 68, 65, 89]
 ·subst h8; exact up_BYYEARDAY v hv
 by_cases h9 : name = [66, 89, 77, 79, 78, 84, 72, 68, 65, 89]
 ·subst h9; exact up_BYMONTHDAY v hv
 by_cases h10 : name = [66, 89, 72, 79, 85, 82]
 ·subst h10; exact up_BYHOUR v hv
 by_cases h11 : name = [66, 89, 77, 73, 78, 85, 84, 69]
 ·subst h11; exact up_BYMINUTE v hv
 by_cases h12 : name = [66, 89, 83, 69, 67, 79, 78, 68]
 ·subst h12; exact up_BYSECOND v hv
 by_cases h13 : name = [66, 89, 83, 69, 84, 80, 79, 83]
 ·subst h13; exact up_BYSETPOS v hv
 refine .inr fun r => ?_
 rw [rule_part.f_eq]
 simp only [beq_S, nm0, nm1, nm2, nm3, nm4, nm5, nm6, nm7, nm8, nm9, nm10, nm11, nm12, nm13, dm, dn h0, dn h1, dn h2, dn h3, dn h4, dn h5, dn h6, dn h7, dn h8, dn h9, dn h10, dn h11, dn h12, dn h13, cond_false]
 rw [rule_part.l1h_eq]
 exact ⟨_, rfl⟩
def Good (s : List UInt8) (u : Up) : Prop := ∃ b, s = u.key ++ 61 :: b ∧ (61 : UInt8) ∉ u.key ∧ ∀ r : Rl, rule_part.f r (mkS u.key) (mkS b) = some (true, u.ap r, ())
def Bad (s : List UInt8) : Prop := ∀ a b, s = a ++ 61 :: b → (61 : UInt8) ∉ a → ∀ r : Rl, ∃ r1, rule_part.f r (mkS a) (mkS b) = some (false, r1, ())
theorem cut_uniq {c : UInt8} : ∀ {a a' b b' : List UInt8}, a ++ c :: b = a' ++ c :: b' → c ∉ a → c ∉ a' → a = a' ∧ b = b'
 | [], [], b, b', h, _, _ => by simpa using h
 | [], x :: a', b, b', h, _, h2 => by simp at h; exact absurd (h.1 ▸ List.mem_cons_self ..) h2
 | x :: a, [], b, b', h, h1, _ => by simp at h; exact absurd (h.1 ▸ List.mem_cons_self ..) h1
 | x :: a, y :: a', b, b', h, h1, h2 => by
  simp at h
  obtain ⟨e, h⟩ := h
  obtain ⟨e1, e2⟩ := cut_uniq h (fun q => h1 (List.mem_cons_of_mem _ q)) (fun q => h2 (List.mem_cons_of_mem _ q))
  exact ⟨by rw [e, e1], e2⟩
theorem good_or (s : List UInt8) (hs : s.length ≤ 50000) : (∃ u, Good s u) ∨ Bad s := by
 rcases first_of (c := (61 : UInt8)) (l := s) with hno | ⟨a, b, hab, ha⟩
 ·exact .inr fun a b e _ => absurd (by rw [e]; simp) hno
 ·have hb : b.length ≤ 50000 := by rw [hab] at hs; simp at hs; omega
  rcases part_up a b hb with ⟨u, hk, h⟩ | h
  ·subst hk
   exact .inl ⟨u, b, hab, ha, h⟩
  ·refine .inr fun a' b' e ha' => ?_
   obtain ⟨e1, e2⟩ := cut_uniq (hab ▸ e) ha ha'
   subst e1 e2
   exact h
theorem good_bad {s : List UInt8} {u : Up} (h : Good s u) (g : Bad s) : False := by
 obtain ⟨b, e, hn, h⟩ := h
 obtain ⟨r1, h1⟩ := g _ _ e hn zR
 rw [h zR] at h1
 cases h1
theorem good_uniq {s : List UInt8} {u w : Up} (h : Good s u) (g : Good s w) : u.key = w.key ∧ ∀ r : Rl, u.ap r = w.ap r := by
 obtain ⟨b, e, hn, h⟩ := h
 obtain ⟨b', e', hn', g⟩ := g
 obtain ⟨e1, e2⟩ := cut_uniq (e ▸ e') hn hn'
 refine ⟨e1, fun r => ?_⟩
 subst e2
 have := h r
 rw [e1, g r] at this
 exact (Prod.mk.inj (Prod.mk.inj (Option.some.inj this)).2).1.symm
def keys (us : List Up) : List (List UInt8) := us.map Up.key
def apAll (r : Rl) (us : List Up) : Rl := us.foldl (fun r u => u.ap r) r
noncomputable def fin (r : Rl) (ms : List (List UInt8)) : Option (Rl × Int × Int × Unit) :=
 if FREQ ∈ ms then (rule_May.f r).bind fun t => bif !t.1 then some (zR, 0, 1, ()) else some (r, 0, 0, ()) else some (zR, 0, 7, ())
theorem fin_e (r : Rl) (ms ns : List (List UInt8)) (h : FREQ ∈ ms ↔ FREQ ∈ ns) : fin r ms = fin r ns := by
 unfold fin
 by_cases c : FREQ ∈ ms
 ·rw [if_pos c, if_pos (h.1 c)]
 ·rw [if_neg c, if_neg fun q => c (h.2 q)]
theorem turn_loop (p : List (List UInt8)) (hp : p.length ≤ 10000) (hpl : ∀ s ∈ p, s.length ≤ 5000) : ∀ (k i : Nat) (r : Rl) (ms : List (List UInt8)), p.length - i = k → i ≤ p.length → ms.length ≤ i →
  (∀ us, All2 Good (p.drop i) us → (∀ u ∈ us, u.key ∉ ms) → (keys us).Nodup → PA p i r ms = fin (apAll r us) (ms ++ keys us)) ∧
  ((¬ ∃ us, All2 Good (p.drop i) us ∧ (∀ u ∈ us, u.key ∉ ms) ∧ (keys us).Nodup) → ∃ n : Nat, PA p i r ms = some (zR, (n : Int), 4, ())) := by
 have hlim : limit = 17179869184 := rfl
 have hml : (p.map mkS).length = p.length := List.length_map ..
 intro k
 induction k with
 | zero =>
  intro i r ms hk hil hms
  have e : i = p.length := by omega
  subst e
  rw [List.drop_length]
  refine ⟨fun us hus _ _ => ?_, fun h => absurd ⟨[], trivial, by simp, by simp [keys]⟩ h⟩
  cases us with
  | cons _ _ => exact hus.elim
  | nil =>
   have hC : slices_Contains_string_string.f (ms.map mkS) ⟨#[70, 82, 69, 81]⟩ = some (decide (FREQ ∈ ms), ()) := contains_spec ms FREQ (by omega)
   have hk0 : ms ++ keys [] = ms := by simp [keys]
   rw [hk0]
   unfold PA
   rw [rule_Parse.l1a_eq]
   simp (disch := omega) only [ss, cond_true, cond_false, Option.bind_some, hml, hC]
   unfold fin
   by_cases c : FREQ ∈ ms
   ·rw [dp c, if_pos c]
    rfl
   ·rw [dn c, if_neg c]
    rfl
 | succ k ih =>
  intro i r ms hk hil hms
  have hlt : i < p.length := by omega
  have hg := gm p i hlt
  have hsl := hpl _ (getD_mem' [] hlt)
  have pt : ∀ x9 : ByteArray, rule_Parse.l2a i x9 (p.map mkS) p.length i true 0 0 0 0 0 false r.1 r.2.1 r.2.2.1 r.2.2.2.1 r.2.2.2.2.1 r.2.2.2.2.2.1 r.2.2.2.2.2.2.1 r.2.2.2.2.2.2.2.1 r.2.2.2.2.2.2.2.2.1 r.2.2.2.2.2.2.2.2.2.1 r.2.2.2.2.2.2.2.2.2.2.1 r.2.2.2.2.2.2.2.2.2.2.2.1 r.2.2.2.2.2.2.2.2.2.2.2.2.1 r.2.2.2.2.2.2.2.2.2.2.2.2.2.1 r.2.2.2.2.2.2.2.2.2.2.2.2.2.2.1 (ms.map mkS) = some (zR, (i : Int), 4, ()) := fun x9 => by rw [rule_Parse.l2a_eq, cond_true]; rfl
  rw [drop_getD' [] hlt]
  generalize hs : p.getD i [] = s at hg hsl
  have start : PA p i r ms = PA p i r ms := rfl
  unfold PA at start
  rcases first_of (c := (61 : UInt8)) (l := s) with hno | ⟨a, b, hab, ha⟩
  ·have hc : strings_Cut.f (mkS s) ⟨#[61]⟩ = some (mkS s, mkS [], false, ()) := cut_none (s := mkS s) (c := 61) hno
   refine ⟨fun us hus _ _ => ?_, fun _ => ⟨i, ?_⟩⟩
   ·cases us with
    | nil => exact hus.elim
    | cons u us =>
     obtain ⟨b, e, _⟩ := hus.1
     exact absurd (by rw [e]; simp) hno
   ·unfold PA
    rw [rule_Parse.l1a_eq]
    simp (disch := omega) only [ss, cond_true, cond_false, Option.bind_some, hml, hg]
    rw [hc]
    simp (disch := omega) only [ss, cond_true, cond_false, Option.bind_some, pt]
  ·have hab2 : a.length + b.length ≤ 5000 := by rw [hab] at hsl; simp at hsl; omega
   have hc : strings_Cut.f (mkS s) ⟨#[61]⟩ = some (mkS a, mkS b, true, ()) := by rw [hab]; exact cut_some (c := 61) (by omega) ha
   have hK := contains_spec ms a (by omega)
   have gk : ∀ u, Good s u → u.key = a := fun u h => by
    obtain ⟨b', e, hn, _⟩ := h
    exact (cut_uniq (hab ▸ e) ha hn).1.symm
   by_cases c : a ∈ ms
   ·refine ⟨fun us hus hm _ => ?_, fun _ => ⟨i, ?_⟩⟩
    ·cases us with
     | nil => exact hus.elim
     | cons u us => exact absurd ((gk u hus.1).symm ▸ c) (hm u (by simp))
    ·unfold PA
     rw [rule_Parse.l1a_eq]
     simp (disch := omega) only [ss, cond_true, cond_false, Option.bind_some, hml, hg]
     rw [hc]
     simp (disch := omega) only [ss, cond_true, cond_false, Option.bind_some, hK, dp c]
     exact pt _
   ·have step : ∀ x, PA p i r ms = x ↔ ((rule_part.f (r.1, r.2.1, r.2.2.1, r.2.2.2.1, r.2.2.2.2.1, r.2.2.2.2.2.1, r.2.2.2.2.2.2.1, r.2.2.2.2.2.2.2.1, r.2.2.2.2.2.2.2.2.1, r.2.2.2.2.2.2.2.2.2.1, r.2.2.2.2.2.2.2.2.2.2.1, r.2.2.2.2.2.2.2.2.2.2.2.1, r.2.2.2.2.2.2.2.2.2.2.2.2.1, r.2.2.2.2.2.2.2.2.2.2.2.2.2.1, r.2.2.2.2.2.2.2.2.2.2.2.2.2.2.1, ()) (mkS a) (mkS b)).bind fun t9 => bif !t9.1 then (some (zR, (i : Int), 4, ())) else PA p (i + 1) t9.2.1 (ms ++ [a])) = x := fun x => by
     have e1 : ms.map mkS ++ [mkS a] = (ms ++ [a]).map mkS := by simp
     have : PA p i r ms = ((rule_part.f (r.1, r.2.1, r.2.2.1, r.2.2.2.1, r.2.2.2.2.1, r.2.2.2.2.2.1, r.2.2.2.2.2.2.1, r.2.2.2.2.2.2.2.1, r.2.2.2.2.2.2.2.2.1, r.2.2.2.2.2.2.2.2.2.1, r.2.2.2.2.2.2.2.2.2.2.1, r.2.2.2.2.2.2.2.2.2.2.2.1, r.2.2.2.2.2.2.2.2.2.2.2.2.1, r.2.2.2.2.2.2.2.2.2.2.2.2.2.1, r.2.2.2.2.2.2.2.2.2.2.2.2.2.2.1, ()) (mkS a) (mkS b)).bind fun t9 => bif !t9.1 then (some (zR, (i : Int), 4, ())) else PA p (i + 1) t9.2.1 (ms ++ [a])) := by
      unfold PA
      rw [rule_Parse.l1a_eq]
      simp (disch := omega) only [ss, cond_true, cond_false, Option.bind_some, hml, hg]
      rw [hc]
      simp (disch := omega) only [ss, cond_true, cond_false, Option.bind_some, hK, dn c]
      congr 1
      funext t9
      rw [rule_Parse.l2a_eq]
      cases t9.1 with
      | false => rfl
      | true =>
       simp (disch := omega) only [ss, cond_true, cond_false, Option.bind_some, List.length_map, List.length_singleton, hlim]
       rw [e1]
       rfl
     rw [this]
    rcases good_or s (by omega) with ⟨u, hu⟩ | hbad
    ·have hk' := gk u hu
     obtain ⟨b', e, hn, hu'⟩ := id hu
     have e2 := (cut_uniq (hab ▸ e) ha hn).2
     subst e2
     have hpart : rule_part.f (r.1, r.2.1, r.2.2.1, r.2.2.2.1, r.2.2.2.2.1, r.2.2.2.2.2.1, r.2.2.2.2.2.2.1, r.2.2.2.2.2.2.2.1, r.2.2.2.2.2.2.2.2.1, r.2.2.2.2.2.2.2.2.2.1, r.2.2.2.2.2.2.2.2.2.2.1, r.2.2.2.2.2.2.2.2.2.2.2.1, r.2.2.2.2.2.2.2.2.2.2.2.2.1, r.2.2.2.2.2.2.2.2.2.2.2.2.2.1, r.2.2.2.2.2.2.2.2.2.2.2.2.2.2.1, ()) (mkS a) (mkS b) = some (true, u.ap r, ()) := by
      rw [← hk']
      exact hu' r
     have go : PA p i r ms = PA p (i + 1) (u.ap r) (ms ++ [a]) := (step _).2 (by rw [hpart]; rfl)
     obtain ⟨n1, n2⟩ := ih (i + 1) (u.ap r) (ms ++ [a]) (by omega) (by omega) (by simp; omega)
     refine ⟨fun us hus hm hnd => ?_, fun h => ?_⟩
     ·cases us with
      | nil => exact hus.elim
      | cons w us =>
       obtain ⟨ew, ef⟩ := good_uniq hus.1 hu
       have hnd' : w.key ∉ keys us ∧ (keys us).Nodup := List.nodup_cons.1 hnd
       have := n1 us hus.2 (fun v hv q => by
        rcases List.mem_append.1 q with q | q
        ·exact hm v (List.mem_cons_of_mem _ hv) q
        ·rw [List.mem_singleton] at q
         exact hnd'.1 (by rw [ew, hk', ← q]; exact List.mem_map.2 ⟨v, hv, rfl⟩)) hnd'.2
       rw [go, this, List.append_assoc]
       show fin (apAll (u.ap r) us) (ms ++ ([a] ++ keys us)) = fin (apAll (w.ap r) us) (ms ++ (w.key :: keys us))
       rw [ew, hk', ef r]
       rfl
     ·rw [go]
      refine n2 fun ⟨us, h1, h2, h3⟩ => h ⟨u :: us, ⟨hu, h1⟩, ?_, ?_⟩
      ·intro v hv q
       rcases List.mem_cons.1 hv with e | hv
       ·subst e
        exact c (hk' ▸ q)
       ·exact h2 v hv (List.mem_append_left _ q)
      ·refine List.nodup_cons.2 ⟨fun q => ?_, h3⟩
       obtain ⟨v, hv, e⟩ := List.mem_map.1 q
       exact h2 v hv (by rw [e, hk']; simp)
    ·refine ⟨fun us hus _ _ => ?_, fun _ => ⟨i, ?_⟩⟩
     ·cases us with
      | nil => exact hus.elim
      | cons u us => exact (good_bad hus.1 hbad).elim
     ·obtain ⟨r1, h1⟩ := hbad a b hab ha r
      refine (step _).2 ?_
      rw [show rule_part.f (r.1, r.2.1, r.2.2.1, r.2.2.2.1, r.2.2.2.2.1, r.2.2.2.2.2.1, r.2.2.2.2.2.2.1, r.2.2.2.2.2.2.2.1, r.2.2.2.2.2.2.2.2.1, r.2.2.2.2.2.2.2.2.2.1, r.2.2.2.2.2.2.2.2.2.2.1, r.2.2.2.2.2.2.2.2.2.2.2.1, r.2.2.2.2.2.2.2.2.2.2.2.2.1, r.2.2.2.2.2.2.2.2.2.2.2.2.2.1, r.2.2.2.2.2.2.2.2.2.2.2.2.2.2.1, ()) (mkS a) (mkS b) = some (false, r1, ()) from h1]
      rfl
theorem rev2 {α β : Type} {R : α → β → Prop} : ∀ {a : List α} {b : List β}, All2 R a b → All2 R a.reverse b.reverse
 | [], [], _ => trivial
 | x :: a, y :: b, h => by
  rw [List.reverse_cons, List.reverse_cons]
  exact All2.append (rev2 h.2) ⟨h.1, trivial⟩
 | [], _ :: _, h => h.elim
 | _ :: _, [], h => h.elim
theorem nd_rev {α : Type} {l : List α} (h : l.Nodup) : l.reverse.Nodup := (List.reverse_perm l).nodup_iff.2 h
theorem keys_rev (us : List Up) : keys us.reverse = (keys us).reverse := by unfold keys; rw [List.map_reverse]
theorem keys_inj : ∀ (us : List Up), (keys us).Nodup → ∀ x ∈ us, ∀ y ∈ us, x.key = y.key → x = y
 | [], _, x, hx, _, _, _ => by cases hx
 | u :: us, h, x, hx, y, hy, e => by
  have h : u.key ∉ keys us ∧ (keys us).Nodup := List.nodup_cons.1 h
  rcases List.mem_cons.1 hx with qx | qx <;> rcases List.mem_cons.1 hy with qy | qy
  ·rw [qx, qy]
  ·subst qx
   exact absurd (show x.key ∈ keys us from List.mem_map.2 ⟨y, qy, e.symm⟩) h.1
  ·subst qy
   exact absurd (show y.key ∈ keys us from List.mem_map.2 ⟨x, qx, e⟩) h.1
  ·exact keys_inj us h.2 x qx y qy e
theorem ap_rev (us : List Up) (h : (keys us).Nodup) (r : Rl) : apAll r us.reverse = apAll r us := by
 unfold apAll
 refine (List.reverse_perm us).foldl_eq' (fun x hx y hy z => ?_) r
 by_cases e : x.key = y.key
 ·rw [keys_inj us h x (List.mem_reverse.1 hx) y (List.mem_reverse.1 hy) e]
 ·exact (up_comm x y e z).symm
def jn (c : UInt8) : List (List UInt8) → List UInt8
 | [] => []
 | [a] => a
 | a :: b :: l => a ++ c :: jn c (b :: l)
theorem jn_snoc (c : UInt8) : ∀ (l : List (List UInt8)) (n : List UInt8), jn c (l ++ [n]) = if l = [] then n else jn c l ++ c :: n
 | [], n => rfl
 | [m], n => rfl
 | m :: k :: l, n => by
  have ih := jn_snoc c (k :: l) n
  rw [if_neg (by simp)] at ih
  rw [if_neg (by simp)]
  show m ++ c :: jn c (k :: l ++ [n]) = (m ++ c :: jn c (k :: l)) ++ c :: n
  rw [ih]
  simp
theorem jn_segs (c : UInt8) : ∀ (l : List (List UInt8)), l ≠ [] → (∀ s ∈ l, c ∉ s) → segs c (jn c l) = l
 | [], h, _ => absurd rfl h
 | [n], _, h => segs_none (h n (by simp))
 | n :: m :: l, _, h => by
  show segs c (n ++ c :: jn c (m :: l)) = _
  rw [segs_some (h n (by simp)), jn_segs c (m :: l) (by simp) fun s hs => h s (List.mem_cons_of_mem _ hs)]
theorem segs_no (c : UInt8) : ∀ (k : Nat) (s : List UInt8), s.length ≤ k → ∀ t ∈ segs c s, c ∉ t := by
 intro k
 induction k with
 | zero =>
  intro s hs t ht
  have : s = [] := List.length_eq_zero_iff.1 (by omega)
  subst this
  rw [segs_none (by simp)] at ht
  rw [List.mem_singleton] at ht
  rw [ht]
  simp
 | succ k ih =>
  intro s hs t ht
  rcases first_of (c := c) (l := s) with h | ⟨a, b, e, ha⟩
  ·rw [segs_none h, List.mem_singleton] at ht
   rw [ht]
   exact h
  ·subst e
   rw [segs_some ha] at ht
   rcases List.mem_cons.1 ht with e | ht
   ·rw [e]
    exact ha
   ·exact ih b (by simp at hs; omega) t ht
def tot : List (List UInt8) → Nat
 | [] => 0
 | a :: l => a.length + tot l
theorem tot_app : ∀ (l m : List (List UInt8)), tot (l ++ m) = tot l + tot m
 | [], m => by simp [tot]
 | a :: l, m => by
  have := tot_app l m
  simp only [List.cons_append, tot]
  omega
theorem tot_rev : ∀ (l : List (List UInt8)), tot l.reverse = tot l
 | [] => rfl
 | a :: l => by
  rw [List.reverse_cons, tot_app, tot_rev l]
  simp only [tot]
  omega
theorem jn_len (c : UInt8) : ∀ (l : List (List UInt8)), l ≠ [] → (jn c l).length + 1 = tot l + l.length
 | [], h => absurd rfl h
 | [n], _ => by simp [jn, tot]
 | n :: m :: l, _ => by
  have := jn_len c (m :: l) (by simp)
  show (n ++ c :: jn c (m :: l)).length + 1 = n.length + tot (m :: l) + _
  rw [List.length_append, List.length_cons, List.length_cons]
  omega
theorem segs_tot (c : UInt8) : ∀ (k : Nat) (s : List UInt8), s.length ≤ k → tot (segs c s) + (segs c s).length = s.length + 1 := by
 intro k
 induction k with
 | zero =>
  intro s hs
  have : s = [] := List.length_eq_zero_iff.1 (by omega)
  subst this
  rw [segs_none (by simp)]
  rfl
 | succ k ih =>
  intro s hs
  rcases first_of (c := c) (l := s) with h | ⟨a, b, e, ha⟩
  ·rw [segs_none h]
   simp [tot]
  ·subst e
   have := ih b (by simp at hs; omega)
   rw [segs_some ha]
   simp only [tot, List.length_cons, List.length_append]
   omega
theorem jn_le (c : UInt8) : ∀ (l : List (List UInt8)), (jn c l).length ≤ tot l + l.length
 | [] => Nat.zero_le _
 | a :: l => by have := jn_len c (a :: l) (by simp); omega
theorem eqI (a : List Int) (ha : a.length ≤ 1000000) : slices_Equal_int_int.f a a = some (true, ()) := by
 have key : ∀ (k i : Nat), a.length - i = k → i ≤ a.length → slices_Equal_int_int.l1 a a a.length i = some (true, ()) := by
  intro k
  induction k with
  | zero =>
   intro i hk hia
   rw [slices_Equal_int_int.l1_eq]
   simp (disch := omega) only [ss, cond_true, cond_false, Option.bind_some]
  | succ k ih =>
   intro i hk hia
   rw [slices_Equal_int_int.l1_eq]
   simp (disch := omega) only [ss, cond_true, cond_false, Option.bind_some]
   exact ih (i + 1) (by omega) (by omega)
 rw [slices_Equal_int_int.f_eq]
 have := key _ 0 rfl (Nat.zero_le _)
 rw [Int.natCast_zero] at this
 simp (disch := omega) only [ss, cond_true, cond_false, Option.bind_some, this]
theorem eqD (a : List Dy) (ha : a.length ≤ 1000000) : slices_Equal_api_Day_api_Day.f a a = some (true, ()) := by
 have key : ∀ (k i : Nat), a.length - i = k → i ≤ a.length → slices_Equal_api_Day_api_Day.l1 a a a.length i = some (true, ()) := by
  intro k
  induction k with
  | zero =>
   intro i hk hia
   rw [slices_Equal_api_Day_api_Day.l1_eq]
   simp (disch := omega) only [ss, cond_true, cond_false, Option.bind_some]
  | succ k ih =>
   intro i hk hia
   rw [slices_Equal_api_Day_api_Day.l1_eq]
   simp (disch := omega) only [ss, cond_true, cond_false, Option.bind_some]
   exact ih (i + 1) (by omega) (by omega)
 rw [slices_Equal_api_Day_api_Day.f_eq]
 have := key _ 0 rfl (Nat.zero_le _)
 rw [Int.natCast_zero] at this
 simp (disch := omega) only [ss, cond_true, cond_false, Option.bind_some, this]
theorem same_self (r : Rl) (h : sh60 r) : rule_Same.f r r = some (true, ()) := by
 unfold sh60 at h
 obtain ⟨h1, h2, h3, h4, h5, h6, h7, h8, h9⟩ := h
 rw [rule_Same.f_eq]
 simp (disch := omega) only [ss, cond_true, cond_false, Option.bind_some, beq_self_eq_true]
 rw [rule_Same.l1_eq, eqI _ (by omega), eqI _ (by omega), eqI _ (by omega), eqI _ (by omega), eqD _ (by omega), eqI _ (by omega), eqI _ (by omega), eqI _ (by omega), eqI _ (by omega)]
 simp (disch := omega) only [ss, cond_true, cond_false, Option.bind_some]
theorem parse_PA (s : List UInt8) (hs : s.length ≤ 4096) : rule_Parse.f (mkS s) = PA (segs 59 s) 0 (0, 1, 0, 0, 0, false, [], [], [], [], [], [], [], [], [], ()) [] := by
 have hsl := segs_len 59 s
 have hS : strings_Split.f (mkS s) ⟨#[59]⟩ = some ((segs 59 s).map mkS, ()) := split_one (c := 59) s (by omega)
 have hml : ((segs 59 s).map mkS).length = (segs 59 s).length := List.length_map ..
 have hR : ∀ (x : List ByteArray) (n : Int), rule_Parse.l1 x n 0 0 0 0 0 0 false 0 1 0 0 0 false [] = rule_Parse.l1a x n 0 0 0 0 0 0 false 0 1 0 0 0 false [] [] [] [] [] [] [] [] [] [] := fun x n => by
  rw [rule_Parse.l1_eq, rule_Parse.l1a_eq]
  simp only [rule_Parse.l2_eq, rule_Parse.l2a_eq, cond_true]
 rw [rule_Parse.f_eq]
 simp (disch := omega) only [ss, cond_true, cond_false, Option.bind_some, szS, hS, hR, hml]
 rfl
theorem turned (s : List UInt8) (hs : s.length ≤ 5000) : ∃ (R : Rl) (n n' e e' : Int), rule_Parse.f (mkS s) = some (R, n, e, ()) ∧ rule_Parse.f (mkS (jn 59 (segs 59 s).reverse)) = some (R, n', e', ()) ∧ decide (e = 0) = decide (e' = 0) ∧ sh60 R := by
 have hne := segs_ne 59 s
 have hne' : (segs 59 s).reverse ≠ [] := by simpa using hne
 have hl1 := segs_tot 59 _ s (Nat.le_refl _)
 have hl2 := jn_len 59 _ hne'
 rw [tot_rev, List.length_reverse] at hl2
 have hl : (jn 59 (segs 59 s).reverse).length = s.length := by omega
 by_cases c : s.length ≤ 4096
 ·obtain ⟨R, n, e, h1, _, hR⟩ := parse_same s (by omega)
  have hsg := jn_segs 59 (segs 59 s).reverse hne' fun t ht => segs_no 59 _ s (Nat.le_refl _) t (List.mem_reverse.1 ht)
  have p1 := parse_PA s c
  have p2 := parse_PA (jn 59 (segs 59 s).reverse) (by omega)
  rw [hsg] at p2
  have hsl := segs_len 59 s
  obtain ⟨a1, a2⟩ := turn_loop (segs 59 s) (by omega) (fun t ht => by have := hsl.2 t ht; omega) _ 0 (0, 1, 0, 0, 0, false, [], [], [], [], [], [], [], [], [], ()) [] rfl (Nat.zero_le _) (Nat.le_refl _)
  obtain ⟨b1, b2⟩ := turn_loop (segs 59 s).reverse (by rw [List.length_reverse]; omega) (fun t ht => by have := hsl.2 t (List.mem_reverse.1 ht); omega) _ 0 (0, 1, 0, 0, 0, false, [], [], [], [], [], [], [], [], [], ()) [] rfl (Nat.zero_le _) (Nat.le_refl _)
  rw [List.drop_zero] at a1 a2 b1 b2
  by_cases g : ∃ us, All2 Good (segs 59 s) us ∧ (keys us).Nodup
  ·obtain ⟨us, g1, g2⟩ := g
   have x1 := a1 us g1 (fun u _ => by simp) g2
   have x2 := b1 us.reverse (rev2 g1) (fun u _ => by simp) (by rw [keys_rev]; exact nd_rev g2)
   have e1 : rule_Parse.f (mkS (jn 59 (segs 59 s).reverse)) = rule_Parse.f (mkS s) := by
    rw [p1, p2, x1, x2, ap_rev us g2, List.nil_append, List.nil_append, keys_rev]
    exact fin_e _ _ _ List.mem_reverse
   exact ⟨R, n, n, e, e, h1, e1.trans h1, rfl, hR⟩
  ·obtain ⟨n1, x1⟩ := a2 fun ⟨us, g1, _, g3⟩ => g ⟨us, g1, g3⟩
   obtain ⟨n2, x2⟩ := b2 fun ⟨us, g1, _, g3⟩ => g ⟨us.reverse, by have := rev2 g1; rwa [List.reverse_reverse] at this, by rw [keys_rev]; exact nd_rev g3⟩
   exact ⟨zR, n1, n2, 4, 4, p1.trans x1, p2.trans x2, rfl, sh60_z⟩
 ·refine ⟨zR, 0, 0, 3, 3, ?_, ?_, rfl, sh60_z⟩
  ·rw [rule_Parse.f_eq]
   simp (disch := omega) only [ss, cond_true, cond_false, Option.bind_some, szS]
   rfl
  ·rw [rule_Parse.f_eq]
   simp (disch := omega) only [ss, cond_true, cond_false, Option.bind_some, szS, hl]
   rfl
theorem turns_loop (p : List (List UInt8)) (hp : p.length ≤ 10000) (hpl : ∀ s ∈ p, s.length ≤ 5000) (R R' : Rl) (hR : sh60 R) (n e e' : Int) (he : decide (e = 0) = decide (e' = 0))
  (hf : rule_Parse.f (mkS (jn 59 p.reverse)) = some (R, n, e', ())) : ∀ (k : Nat), k ≤ p.length →
  voklaw5_RuleTurns.l1 e (p.map mkS) (mkS (jn 59 (p.drop k).reverse)) ((k : Int) - 1) R.1 R.2.1 R.2.2.1 R.2.2.2.1 R.2.2.2.2.1 R.2.2.2.2.2.1 R.2.2.2.2.2.2.1 R.2.2.2.2.2.2.2.1 R.2.2.2.2.2.2.2.2.1 R.2.2.2.2.2.2.2.2.2.1 R.2.2.2.2.2.2.2.2.2.2.1 R.2.2.2.2.2.2.2.2.2.2.2.1 R.2.2.2.2.2.2.2.2.2.2.2.2.1 R.2.2.2.2.2.2.2.2.2.2.2.2.2.1 R.2.2.2.2.2.2.2.2.2.2.2.2.2.2.1 = some (true, ()) := by
 intro k
 induction k with
 | zero =>
  intro _
  rw [List.drop_zero, voklaw5_RuleTurns.l1_eq]
  have hS : rule_Same.f (R.1, R.2.1, R.2.2.1, R.2.2.2.1, R.2.2.2.2.1, R.2.2.2.2.2.1, R.2.2.2.2.2.2.1, R.2.2.2.2.2.2.2.1, R.2.2.2.2.2.2.2.2.1, R.2.2.2.2.2.2.2.2.2.1, R.2.2.2.2.2.2.2.2.2.2.1, R.2.2.2.2.2.2.2.2.2.2.2.1, R.2.2.2.2.2.2.2.2.2.2.2.2.1, R.2.2.2.2.2.2.2.2.2.2.2.2.2.1, R.2.2.2.2.2.2.2.2.2.2.2.2.2.2.1, ()) (R.1, R.2.1, R.2.2.1, R.2.2.2.1, R.2.2.2.2.1, R.2.2.2.2.2.1, R.2.2.2.2.2.2.1, R.2.2.2.2.2.2.2.1, R.2.2.2.2.2.2.2.2.1, R.2.2.2.2.2.2.2.2.2.1, R.2.2.2.2.2.2.2.2.2.2.1, R.2.2.2.2.2.2.2.2.2.2.2.1, R.2.2.2.2.2.2.2.2.2.2.2.2.1, R.2.2.2.2.2.2.2.2.2.2.2.2.2.1, R.2.2.2.2.2.2.2.2.2.2.2.2.2.2.1, ()) = some (true, ()) := same_self R hR
  simp (disch := omega) only [ss, cond_true, cond_false, Option.bind_some, hf, first_true, he, beq_self_eq_true, hS]
 | succ k ih =>
  intro hk
  have hlt : k < p.length := by omega
  have hg := gm p k hlt
  have hsl := hpl _ (getD_mem' [] hlt)
  have ih := ih (by omega)
  rw [drop_getD' [] hlt, List.reverse_cons, jn_snoc] at ih
  have hml : (p.map mkS).length = p.length := List.length_map ..
  have hb := jn_le 59 (p.drop (k + 1)).reverse
  have ht : ∀ l : List (List UInt8), (∀ s ∈ l, s.length ≤ 5000) → tot l ≤ 5000 * l.length := by
   intro l
   induction l with
   | nil => exact fun _ => Nat.zero_le _
   | cons a l ih =>
    intro h
    have h1 := h a (by simp)
    have h2 := ih fun s hs => h s (List.mem_cons_of_mem _ hs)
    simp only [tot, List.length_cons]
    omega
  have hb2 := ht (p.drop (k + 1)).reverse fun s hs => hpl s (List.mem_of_mem_drop (List.mem_reverse.1 hs))
  have hl3 : (p.drop (k + 1)).reverse.length = p.length - (k + 1) := by rw [List.length_reverse, List.length_drop]
  rw [hl3] at hb hb2
  rw [voklaw5_RuleTurns.l1_eq]
  have hnil : (⟨#[]⟩ : ByteArray) = mkS [] := rfl
  have hc : (⟨#[59]⟩ : ByteArray) = mkS [59] := rfl
  have k1 : ((k + 1 : Nat) : Int) - 1 = (k : Int) := by omega
  rw [k1, beq_S, hnil, dm]
  by_cases c : k + 1 = p.length
  ·have hd : p.drop (k + 1) = [] := by rw [c, List.drop_length]
   rw [hd] at ih ⊢
   rw [if_pos List.reverse_nil] at ih
   have hz : jn 59 ([] : List (List UInt8)).reverse = [] := rfl
   rw [hz]
   simp (disch := omega) only [ss, cond_true, cond_false, Option.bind_some, hml, voklaw5_RuleTurns.l2_eq, hg, szS, List.length_nil, mk_app, List.nil_append]
   exact ih
  ·have hd : (p.drop (k + 1)).reverse ≠ [] := by
    intro q
    rw [q] at hl3
    simp at hl3
    omega
   rw [if_neg hd] at ih
   have fl : ∀ b : Bool, (bif b then voklaw5_RuleTurns.l2 e (p.map mkS) (mkS (jn 59 (p.drop (k + 1)).reverse)) k true R.1 R.2.1 R.2.2.1 R.2.2.2.1 R.2.2.2.2.1 R.2.2.2.2.2.1 R.2.2.2.2.2.2.1 R.2.2.2.2.2.2.2.1 R.2.2.2.2.2.2.2.2.1 R.2.2.2.2.2.2.2.2.2.1 R.2.2.2.2.2.2.2.2.2.2.1 R.2.2.2.2.2.2.2.2.2.2.2.1 R.2.2.2.2.2.2.2.2.2.2.2.2.1 R.2.2.2.2.2.2.2.2.2.2.2.2.2.1 R.2.2.2.2.2.2.2.2.2.2.2.2.2.2.1 else voklaw5_RuleTurns.l2 e (p.map mkS) (mkS (jn 59 (p.drop (k + 1)).reverse)) k true R.1 R.2.1 R.2.2.1 R.2.2.2.1 R.2.2.2.2.1 R.2.2.2.2.2.1 R.2.2.2.2.2.2.1 R.2.2.2.2.2.2.2.1 R.2.2.2.2.2.2.2.2.1 R.2.2.2.2.2.2.2.2.2.1 R.2.2.2.2.2.2.2.2.2.2.1 R.2.2.2.2.2.2.2.2.2.2.2.1 R.2.2.2.2.2.2.2.2.2.2.2.2.1 R.2.2.2.2.2.2.2.2.2.2.2.2.2.1 R.2.2.2.2.2.2.2.2.2.2.2.2.2.2.1) = voklaw5_RuleTurns.l2 e (p.map mkS) (mkS (jn 59 (p.drop (k + 1)).reverse)) k true R.1 R.2.1 R.2.2.1 R.2.2.2.1 R.2.2.2.2.1 R.2.2.2.2.2.1 R.2.2.2.2.2.2.1 R.2.2.2.2.2.2.2.1 R.2.2.2.2.2.2.2.2.1 R.2.2.2.2.2.2.2.2.2.1 R.2.2.2.2.2.2.2.2.2.2.1 R.2.2.2.2.2.2.2.2.2.2.2.1 R.2.2.2.2.2.2.2.2.2.2.2.2.1 R.2.2.2.2.2.2.2.2.2.2.2.2.2.1 R.2.2.2.2.2.2.2.2.2.2.2.2.2.2.1 := fun b => by cases b <;> rfl
   simp (disch := omega) only [dp, hml, wr, cond_true, fl]
   simp (disch := omega) only [ss, cond_true, cond_false, Option.bind_some, hml, voklaw5_RuleTurns.l2_eq, hg, szS, List.length_append, List.length_singleton, hc, mk_app]
   rw [show jn 59 (p.drop (k + 1)).reverse ++ [59] ++ p.getD k [] = jn 59 (p.drop (k + 1)).reverse ++ 59 :: p.getD k [] by simp]
   exact ih
theorem RuleTurns_pure (s : ByteArray) : voklaw5_RuleTurns.f s = some (true, ()) := by
 rw [voklaw5_RuleTurns.f_eq]
 by_cases c : (s.size : Int) > 5000
 ·simp (disch := omega) only [ss, cond_true, cond_false, Option.bind_some, first_true]
 ·have hs : (B s).length ≤ 5000 := by rw [← size_B]; omega
  obtain ⟨R, n, n', e, e', h1, h2, h3, h4⟩ := turned (B s) hs
  have hsl := segs_len 59 (B s)
  have hV : vokref_Split.f (mkS (B s)) 59 = some ((segs 59 (B s)).map mkS, ()) := vsplit_spec 59 (B s) (by omega)
  have hl := turns_loop (segs 59 (B s)) (by omega) (fun t ht => by have := hsl.2 t ht; omega) R R h4 n' e e' h3 h2 (segs 59 (B s)).length (Nat.le_refl _)
  rw [List.drop_length] at hl
  rw [mk_B] at h1 hV
  have hml : ((segs 59 (B s)).map mkS).length = (segs 59 (B s)).length := List.length_map ..
  simp (disch := omega) only [ss, cond_true, cond_false, Option.bind_some, first_true, h1, hV, hml]
  exact hl
end Go.GV.YtkkfgajlnpcpcaaGreatDoor
namespace Go.GV.YtkkfgajlnpcpcaaGreatDoor
open Go.Proofs
theorem fst_step (y : Int) (hy : 1 ≤ y) : fst_ (y + 1) = fst_ y + cum y 13 := by
 unfold fst_ cum cumT
 have e : (if 3 ≤ (13 : Int) ∧ leapB y = true then (1 : Int) else 0) = y / 4 - (y - 1) / 4 - (y / 100 - (y - 1) / 100) + (y / 400 - (y - 1) / 400) := by
  unfold leapB
  by_cases h1 : y % 4 = 0
  ·by_cases h2 : y % 100 = 0
   ·by_cases h5 : y % 400 = 0
    ·rw [if_pos ⟨by omega, by simp [h1, h2, h5]⟩]; omega
    ·rw [if_neg (by simp [h1, h2, h5])]; omega
   ·rw [if_pos ⟨by omega, by simp [h1, h2]⟩]; omega
  ·rw [if_neg (by simp [h1])]; omega
 rw [e]
 simp
 omega
theorem cum13 (y : Int) : 365 ≤ cum y 13 ∧ cum y 13 ≤ 366 := by
 unfold cum cumT
 split <;> (simp; try omega)
theorem fst_mono {a b : Int} (h0 : 1 ≤ a) (h : a < b) : fst_ a + 365 ≤ fst_ b := by
 obtain ⟨k, hk⟩ := Int.eq_ofNat_of_zero_le (show 0 ≤ b - a - 1 by omega)
 have e : b = a + 1 + (k : Int) := by omega
 subst e
 clear hk h
 induction k with
 | zero =>
  have := fst_step a h0
  have := cum13 a
  simp
  omega
 | succ k ih =>
  have := fst_step (a + 1 + (k : Int)) (by omega)
  have := cum13 (a + 1 + (k : Int))
  rw [show a + 1 + ((k + 1 : Nat) : Int) = a + 1 + (k : Int) + 1 by omega]
  omega
theorem fst_mono' {a b : Int} (h0 : 1 ≤ a) (h : a ≤ b) : fst_ a ≤ fst_ b := by
 rcases Int.lt_or_eq_of_le h with h | h
 ·have := fst_mono h0 h
  omega
 ·rw [h]
  exact Int.le_refl _
theorem fst_1 : fst_ 1 = -719162 := by decide
theorem fst_10000 : fst_ 10000 = 2932897 := by decide
theorem cum_1 (y : Int) : cum y 1 = 0 := by
 unfold cum cumT
 simp
theorem cum_mono (y : Int) {a b : Int} (h0 : 1 ≤ a) (h : a ≤ b) (h1 : b ≤ 13) : cum y a ≤ cum y b := by
 obtain ⟨k, hk⟩ := Int.eq_ofNat_of_zero_le (show 0 ≤ b - a by omega)
 have e : b = a + (k : Int) := by omega
 subst e
 clear hk h
 induction k with
 | zero => simp
 | succ k ih =>
  have := ih (by omega)
  have h2 := cum_succ y (a + (k : Int)) (by omega) (by omega)
  have := mlen_bd y (a + (k : Int))
  rw [show a + ((k + 1 : Nat) : Int) = a + (k : Int) + 1 by omega, h2]
  omega
theorem year_of (n : Int) (h1 : -719162 ≤ n) (h2 : n ≤ 2932896) : ∃ y, 1 ≤ y ∧ y ≤ 9999 ∧ fst_ y ≤ n ∧ n < fst_ (y + 1) := by
 have key : ∀ k : Nat, k ≤ 9999 → n < fst_ (1 + (k : Int)) → ∃ y, 1 ≤ y ∧ y ≤ 9999 ∧ fst_ y ≤ n ∧ n < fst_ (y + 1) := by
  intro k
  induction k with
  | zero =>
   intro _ h
   rw [show (1 : Int) + ((0 : Nat) : Int) = 1 from rfl, fst_1] at h
   omega
  | succ k ih =>
   intro hk h
   by_cases c : n < fst_ (1 + (k : Int))
   ·exact ih (by omega) c
   ·exact ⟨1 + (k : Int), by omega, by omega, by omega, by rw [show (1 : Int) + (k : Int) + 1 = 1 + ((k + 1 : Nat) : Int) by omega]; exact h⟩
 refine key 9999 (Nat.le_refl _) ?_
 rw [show (1 : Int) + ((9999 : Nat) : Int) = 10000 from rfl, fst_10000]
 omega
theorem month_of (y d : Int) (h1 : 0 ≤ d) (h2 : d < cum y 13) : ∃ m, 1 ≤ m ∧ m ≤ 12 ∧ cum y m ≤ d ∧ d < cum y (m + 1) := by
 have key : ∀ k : Nat, k ≤ 12 → d < cum y (1 + (k : Int)) → ∃ m, 1 ≤ m ∧ m ≤ 12 ∧ cum y m ≤ d ∧ d < cum y (m + 1) := by
  intro k
  induction k with
  | zero =>
   intro _ h
   rw [show (1 : Int) + ((0 : Nat) : Int) = 1 from rfl, cum_1] at h
   omega
  | succ k ih =>
   intro hk h
   by_cases c : d < cum y (1 + (k : Int))
   ·exact ih (by omega) c
   ·exact ⟨1 + (k : Int), by omega, by omega, by omega, by rw [show (1 : Int) + (k : Int) + 1 = 1 + ((k + 1 : Nat) : Int) by omega]; exact h⟩
 exact key 12 (Nat.le_refl _) h2
def isDate (n y m d : Int) : Prop := validB y m d = true ∧ fst_ y + d - 1 + cum y m = n
theorem valid_iff {y m d : Int} : validB y m d = true ↔ 1 ≤ y ∧ y ≤ 9999 ∧ 1 ≤ d ∧ d ≤ mlen y m := by
 unfold validB
 simp only [Bool.and_eq_true, decide_eq_true_eq, and_assoc]
theorem date_bd {n y m d : Int} (h : isDate n y m d) : fst_ y ≤ n ∧ n < fst_ (y + 1) ∧ 1 ≤ m ∧ m ≤ 12 ∧ -719162 ≤ n ∧ n ≤ 2932896 := by
 obtain ⟨h1, h2⟩ := h
 obtain ⟨h3, h4, h5, h6⟩ := valid_iff.1 h1
 have hm := (mlen_bd y m).2.2 (by omega)
 have hc := cum_succ y m hm.1 hm.2
 have hb := cum_bd y m
 have hs := fst_step y h3
 have hmo := cum_mono y (a := m + 1) (b := 13) (by omega) (by omega) (by omega)
 have h7 := fst_mono' (a := 1) (b := y) (by omega) h3
 have h8 := fst_mono' (a := y + 1) (b := 10000) (by omega) (by omega)
 rw [fst_1] at h7
 rw [fst_10000] at h8
 exact ⟨by omega, by omega, hm.1, hm.2, by omega, by omega⟩
theorem civ_l5 (y d0 M : Int) (hy : 1 ≤ y) (hy2 : y ≤ 9999) (h1 : 0 ≤ d0) (h2 : M ≤ 12) (h3 : cum y M ≤ d0) (h4 : d0 < cum y (M + 1)) : ∀ (k : Nat) (m : Int), M - m = k → 1 ≤ m →
  civil_Date.l5 y (d0 - cum y m) m = some (y, M, d0 - cum y M + 1, 0, ()) ∧ vokref1_Date.l2 y (d0 - cum y m) m = some (y, M, d0 - cum y M + 1, 0, ()) := by
 intro k
 induction k with
 | zero =>
  intro m hk hm
  have e : m = M := by omega
  subst e
  have hc := cum_succ y m hm h2
  have hb := cum_bd y m
  have hb2 := cum_bd y (m + 1)
  rw [civil_Date.l5_eq, vokref1_Date.l2_eq, length_spec y m (by omega), vlength_spec y m (by omega)]
  simp (disch := omega) only [ss, cond_true, cond_false, Option.bind_some, ge_iff_le]
  exact ⟨trivial, trivial⟩
 | succ k ih =>
  intro m hk hm
  have hc := cum_succ y m hm (by omega)
  have hmo := cum_mono y (a := m + 1) (b := M) (by omega) (by omega) (by omega)
  have hb := cum_bd y m
  have hb1 := cum_bd y M
  have hb2 := cum_bd y (m + 1)
  have hb3 := cum_bd y (M + 1)
  rw [civil_Date.l5_eq, vokref1_Date.l2_eq, length_spec y m (by omega), vlength_spec y m (by omega)]
  have e : d0 - cum y m - mlen y m = d0 - cum y (m + 1) := by omega
  simp (disch := omega) only [ss, cond_true, cond_false, Option.bind_some, ge_iff_le]
  rw [e]
  exact ih (m + 1) (by omega) (by omega)
theorem num11 (y : Int) (hy : 1 ≤ y) (hy2 : y ≤ 10000) : civil_number.f y 1 1 = some (fst_ y, ()) := by
 rw [number_civil y 1 1 hy hy2 (by omega) (by omega) (by omega) (by omega), cum_1]
 congr 2
 omega
theorem civ_l4 (n Y : Int) (hY : 1 ≤ Y) (h1 : fst_ Y ≤ n) (h2 : n < fst_ (Y + 1)) : ∀ (k : Nat) (z : Int), z - Y = k → z ≤ 9999 → civil_Date.l4 n z = civil_Date.l5 Y (n - fst_ Y) 1 := by
 intro k
 have hfb := fst_bd (Y + 1) (by omega)
 induction k with
 | zero =>
  intro z hk hz
  have e : z = Y := by omega
  subst e
  have hfb := fst_bd z (by omega) (by omega)
  have hfb1 := fst_bd (z + 1) (by omega) (by omega)
  rw [civil_Date.l4_eq, num11 z (by omega) (by omega)]
  simp (disch := omega) only [ss, cond_true, cond_false, Option.bind_some, gt_iff_lt]
 | succ k ih =>
  intro z hk hz
  have hm := fst_mono' (a := Y + 1) (b := z) (by omega) (by omega)
  have hfb := fst_bd z (by omega) (by omega)
  rw [civil_Date.l4_eq, num11 z (by omega) (by omega)]
  simp (disch := omega) only [ss, cond_true, cond_false, Option.bind_some, gt_iff_lt]
  exact ih (z - 1) (by omega) (by omega)
theorem civ_l1 (n Y : Int) (hY : 1 ≤ Y) (hY2 : Y ≤ 9999) (h1 : fst_ Y ≤ n) (h2 : n < fst_ (Y + 1)) : ∀ (k : Nat) (y : Int), (Y - y).toNat = k → 1 ≤ y → y ≤ 9999 → ∃ z, Y ≤ z ∧ z ≤ 9999 ∧ civil_Date.l1 n y = civil_Date.l4 n z := by
 intro k
 induction k with
 | zero =>
  intro y hk hy hy2
  refine ⟨y, by omega, hy2, ?_⟩
  rw [civil_Date.l1_eq]
  by_cases c : y < 9999
  ·have hm := fst_mono' (a := Y + 1) (b := y + 1) (by omega) (by omega)
   have hw : IntKind.i64.wrap (y + 1) = y + 1 := wr (by omega) (by omega)
   rw [hw, num11 (y + 1) (by omega) (by omega)]
   simp (disch := omega) only [ss, cond_true, cond_false, Option.bind_some, civil_Date.l2_eq, civil_Date.l3_eq]
  ·simp (disch := omega) only [ss, cond_true, cond_false, Option.bind_some, civil_Date.l2_eq, civil_Date.l3_eq]
 | succ k ih =>
  intro y hk hy hy2
  have hm := fst_mono' (a := y + 1) (b := Y) (by omega) (by omega)
  have hw : IntKind.i64.wrap (y + 1) = y + 1 := wr (by omega) (by omega)
  obtain ⟨z, z1, z2, z3⟩ := ih (y + 1) (by omega) (by omega) (by omega)
  refine ⟨z, z1, z2, ?_⟩
  rw [civil_Date.l1_eq, hw, num11 (y + 1) (by omega) (by omega)]
  simp (disch := omega) only [ss, cond_true, cond_false, Option.bind_some, civil_Date.l2_eq]
  exact z3
theorem vciv_l1 (n Y : Int) (hY : 1 ≤ Y) (hY2 : Y ≤ 9999) (h1 : fst_ Y ≤ n) (h2 : n < fst_ (Y + 1)) : ∀ (k : Nat) (y : Int), Y - y = k → 1 ≤ y → vokref1_Date.l1 n y = vokref1_Date.l2 Y (n - fst_ Y) 1 := by
 intro k
 induction k with
 | zero =>
  intro y hk hy
  have e : y = Y := by omega
  subst e
  have hfb := fst_bd y (by omega) (by omega)
  have hfb1 := fst_bd (y + 1) (by omega) (by omega)
  have hw : IntKind.i64.wrap (y + 1) = y + 1 := wr (by omega) (by omega)
  rw [vokref1_Date.l1_eq, hw, first_spec (y + 1) (by omega) (by omega), first_spec y (by omega) (by omega)]
  simp (disch := omega) only [ss, cond_true, cond_false, Option.bind_some]
 | succ k ih =>
  intro y hk hy
  have hm := fst_mono' (a := y + 1) (b := Y) (by omega) (by omega)
  have hw : IntKind.i64.wrap (y + 1) = y + 1 := wr (by omega) (by omega)
  rw [vokref1_Date.l1_eq, hw, first_spec (y + 1) (by omega) (by omega)]
  simp (disch := omega) only [ss, cond_true, cond_false, Option.bind_some]
  exact ih (y + 1) (by omega) (by omega)
theorem date_spec (n : Int) (h1 : -719162 ≤ n) (h2 : n ≤ 2932896) : ∃ y m d, isDate n y m d ∧ civil_Date.f n = some (y, m, d, 0, ()) ∧ vokref1_Date.f n = some (y, m, d, 0, ()) := by
 obtain ⟨Y, y1, y2, y3, y4⟩ := year_of n h1 h2
 have hs := fst_step Y y1
 obtain ⟨M, m1, m2, m3, m4⟩ := month_of Y (n - fst_ Y) (by omega) (by omega)
 have hc := cum_succ Y M m1 m2
 have h5 := civ_l5 Y (n - fst_ Y) M y1 y2 (by omega) m2 m3 m4 (M - 1).toNat 1 (by omega) (by omega)
 rw [cum_1, Int.sub_zero] at h5
 refine ⟨Y, M, n - fst_ Y - cum Y M + 1, ⟨valid_iff.2 ⟨y1, y2, by omega, by omega⟩, by omega⟩, ?_, ?_⟩
 ·have hz1 : (n + 719162) * 400 / 146097 + 1 ≤ 9999 := by omega
  obtain ⟨z, z1, z2, z3⟩ := civ_l1 n Y y1 y2 y3 y4 _ ((n + 719162) * 400 / 146097 + 1) rfl (by omega) hz1
  have h4 := civ_l4 n Y y1 y3 y4 (z - Y).toNat z (by omega) z2
  rw [civil_Date.f_eq, civil_day.f_eq]
  have e1 : IntKind.i64.wrap (n - -719162) = n + 719162 := by rw [wr (by omega) (by omega)]; omega
  have e2 : IntKind.i64.wrap ((n + 719162) * 400) = (n + 719162) * 400 := wr (by omega) (by omega)
  simp (disch := omega) only [ss, cond_true, cond_false, Option.bind_some, e1, e2, tdn (show 0 ≤ (n + 719162) * 400 by omega), ge_iff_le]
  rw [z3, h4]
  exact h5.1
 ·have hlow : fst_ (Y + 1) ≤ -719162 + 366 * Y := by
   unfold fst_
   omega
  have hv := vciv_l1 n Y y1 y2 y3 y4 (Y - ((n + 719162) / 366 + 1)).toNat ((n + 719162) / 366 + 1) (by omega) (by omega)
  have e1 : IntKind.i64.wrap (n - -719162) = n + 719162 := by rw [wr (by omega) (by omega)]; omega
  rw [vokref1_Date.f_eq, vokref1_in.f_eq, first_spec 1 (by omega) (by omega), first_spec 10000 (by omega) (by omega), fst_1, fst_10000]
  simp (disch := omega) only [ss, cond_true, cond_false, Option.bind_some, e1, tdn (show 0 ≤ n + 719162 by omega), ge_iff_le]
  rw [hv]
  exact h5.2
theorem tdm (t k : Int) (hk : 0 < k) : Int.tdiv t k = (if t % k ≠ 0 ∧ t < 0 then t / k + 1 else t / k) ∧ Int.tmod t k = (if t % k ≠ 0 ∧ t < 0 then t % k - k else t % k) := by
 by_cases h : 0 ≤ t
 ·rw [if_neg (by omega), if_neg (by omega)]
  exact ⟨tdn h k, tmn h k⟩
 ·have e : t = -(-t) := by omega
  have h1 : Int.tdiv t k = -((-t) / k) := by rw [e, Int.neg_tdiv, tdn (by omega), Int.neg_neg]
  have h2 : Int.tmod t k = -((-t) % k) := by rw [e, Int.neg_tmod, tmn (by omega), Int.neg_neg]
  have h3 := Int.emod_add_mul_ediv t k
  have h4 := Int.emod_add_mul_ediv (-t) k
  have b1 := Int.emod_nonneg t (show k ≠ 0 by omega)
  have b2 := Int.emod_lt_of_pos t hk
  have b3 := Int.emod_nonneg (-t) (show k ≠ 0 by omega)
  have b4 := Int.emod_lt_of_pos (-t) hk
  rw [h1, h2]
  by_cases hz : t % k = 0
  ·rw [if_neg (by omega), if_neg (by omega)]
   have hz2 : (-t) % k = 0 := by
    have : k ∣ t := Int.dvd_of_emod_eq_zero hz
    exact Int.emod_eq_zero_of_dvd (Int.dvd_neg.2 this)
   have : (-t) / k = -(t / k) := Int.neg_ediv_of_dvd (Int.dvd_of_emod_eq_zero hz)
   exact ⟨by omega, by omega⟩
  ·rw [if_pos ⟨hz, by omega⟩, if_pos ⟨hz, by omega⟩]
   have hq : (-t) % k = k - t % k := by
    have e1 : -t = (k - t % k) + k * (-(t / k) - 1) := by
     rw [Int.mul_sub, Int.mul_neg]
     omega
    rw [e1, Int.add_mul_emod_self_left, Int.emod_eq_of_lt (by omega) (by omega)]
   have hd : (-t) / k = -(t / k) - 1 := by
    have : k * ((-t) / k) = k * (-(t / k) - 1) := by
     rw [Int.mul_sub, Int.mul_neg]
     omega
    exact Int.eq_of_mul_eq_mul_left (by omega) this
   exact ⟨by omega, by omega⟩
theorem mday_spec (t : Int) (h1 : -9000000000000000000 ≤ t) (h2 : t ≤ 9000000000000000000) : stamp_Day.f t = some (t / 86400, t % 86400, ()) ∧ vokref1_Day.f t = some (t / 86400, t % 86400, ()) := by
 obtain ⟨e1, e2⟩ := tdm t 86400 (by omega)
 rw [stamp_Day.f_eq, vokref1_Day.f_eq, vokref1_down.f_eq, e1, e2]
 by_cases c : t % 86400 ≠ 0 ∧ t < 0
 ·rw [if_pos c, if_pos c]
  have q1 : t / 86400 + 1 - 1 = t / 86400 := by omega
  have q2 : t % 86400 - 86400 + 86400 = t % 86400 := by omega
  simp (disch := omega) only [ss, cond_true, cond_false, Option.bind_some, q1, q2]
  exact ⟨trivial, trivial⟩
 ·rw [if_neg c, if_neg c]
  simp (disch := omega) only [ss, cond_true, cond_false, Option.bind_some]
  exact ⟨trivial, trivial⟩
theorem may_mo (t : Int) : stamp_May.f t = some (decide (-62135596800 ≤ t ∧ t ≤ 253402300799), ()) ∧ vokref1_May.f t = some (decide (-62135596800 ≤ t ∧ t ≤ 253402300799), ()) := by
 rw [stamp_May.f_eq, vokref1_May.f_eq]
 by_cases c : -62135596800 ≤ t
 ·by_cases c2 : t ≤ 253402300799
  ·simp (disch := omega) only [ss, cond_true, cond_false, Option.bind_some, ge_iff_le]
   exact ⟨trivial, trivial⟩
  ·simp (disch := omega) only [ss, cond_true, cond_false, Option.bind_some, ge_iff_le]
   exact ⟨trivial, trivial⟩
 ·simp (disch := omega) only [ss, cond_true, cond_false, Option.bind_some, ge_iff_le]
  exact ⟨trivial, trivial⟩
end Go.GV.YtkkfgajlnpcpcaaGreatDoor
namespace Go.GV.YtkkfgajlnpcpcaaGreatDoor
open Go.Proofs
def dgs : Nat → Nat → List UInt8
 | 0, _ => []
 | w + 1, n => dgs w (n / 10) ++ [UInt8.ofNat (48 + n % 10)]
theorem dgs_len : ∀ (w n : Nat), (dgs w n).length = w
 | 0, _ => rfl
 | w + 1, n => by rw [dgs, List.length_append, dgs_len w]; rfl
theorem dgs_dig : ∀ (w n : Nat), digs (dgs w n)
 | 0, _ => fun c h => by cases h
 | w + 1, n => by
  rw [dgs, digs_app]
  refine ⟨dgs_dig w _, fun c h => ?_⟩
  rw [List.mem_singleton] at h
  subst h
  unfold dig
  rw [of48 (by omega)]
  omega
theorem dgs_val : ∀ (w n : Nat), n < 10 ^ w → dval 0 (dgs w n) = n
 | 0, n, h => by
  have : n = 0 := by simpa using h
  subst this
  rfl
 | w + 1, n, h => by
  rw [Nat.pow_succ] at h
  rw [dgs, dval_app, dgs_val w (n / 10) (by omega)]
  have h8 := of48 (show n % 10 < 10 by omega)
  generalize UInt8.ofNat (48 + n % 10) = c at h8
  show 10 * (n / 10) + (c.toNat - 48) = n
  omega
theorem dgs_zero : ∀ w : Nat, dgs w 0 = List.replicate w 48
 | 0 => rfl
 | w + 1 => by rw [dgs, Nat.zero_div, dgs_zero w, List.replicate_succ']; rfl
theorem dgs_D : ∀ (w n : Nat), n < 10 ^ (w + 1) → ∃ z, z + (Lib.decDigits n).length = w + 1 ∧ List.replicate z 48 ++ Lib.decDigits n = dgs (w + 1) n := by
 intro w
 induction w with
 | zero =>
  intro n h
  have h : n < 10 := by simpa using h
  have e : Lib.decDigits n = [UInt8.ofNat (48 + n)] := by rw [Lib.decDigits, dif_pos h]
  refine ⟨0, by rw [e]; rfl, ?_⟩
  rw [e, dgs, dgs, Nat.mod_eq_of_lt h]
  rfl
 | succ w ih =>
  intro n h
  by_cases hn : n < 10
  ·have e : Lib.decDigits n = [UInt8.ofNat (48 + n)] := by rw [Lib.decDigits, dif_pos hn]
   refine ⟨w + 1, by rw [e]; rfl, ?_⟩
   rw [e, dgs, Nat.mod_eq_of_lt hn, Nat.div_eq_of_lt hn, dgs_zero]
  ·have e : Lib.decDigits n = Lib.decDigits (n / 10) ++ [UInt8.ofNat (48 + n % 10)] := by rw [Lib.decDigits, dif_neg hn]
   obtain ⟨z, h1, h2⟩ := ih (n / 10) (by rw [Nat.pow_succ] at h; omega)
   refine ⟨z, by rw [e, List.length_append, List.length_singleton]; omega, ?_⟩
   rw [e, dgs, ← h2, List.append_assoc]
theorem repeat48 : ∀ n : Nat, Lib.repeatL [48] n = List.replicate n 48
 | 0 => rfl
 | n + 1 => by rw [Lib.repeatL, repeat48 n, List.replicate_succ]; rfl
theorem sdig (w n : Nat) (h0 : 0 < w) (hw : w ≤ 4) (h : n < 10 ^ w) : stamp_digits.f (n : Int) (w : Int) = some (mkS (dgs w n), ()) := by
 have hp : 10 ^ w ≤ 10 ^ 4 := Nat.pow_le_pow_right (by decide) hw
 have hp : 10 ^ w ≤ 10000 := hp
 have hI : strconv_Itoa.f (n : Int) = some (mkS (Lib.decDigits n), ()) := by
  rw [itoa_sem n (by omega) (by omega), itoa_pos (by omega), Int.toNat_natCast]
 obtain ⟨w, rfl⟩ : ∃ v, w = v + 1 := ⟨w - 1, by omega⟩
 obtain ⟨z, h1, h2⟩ := dgs_D w n h
 rw [stamp_digits.f_eq, hI]
 have hw' : IntKind.i64.wrap (((w + 1 : Nat) : Int) - ((Lib.decDigits n).length : Int)) = (z : Int) := by
  rw [wr (by omega) (by omega)]
  omega
 have hm : mm true (z : Int) 0 = (z : Int) := by
  simp only [mm, cond_true]
  rw [if_neg (by omega)]
 have hR : strings_Repeat.f (⟨#[48]⟩ : ByteArray) (z : Int) = some (mkS (List.replicate z 48), ()) := by
  rw [strings_Repeat.f_sem]
  show (bif decide (0 ≤ (z : Int)) then (bif decide ((z : Int) ≤ 1000000) then (bif decide (0 < ByteArray.size ⟨#[48]⟩) then (bif decide (ByteArray.size ⟨#[48]⟩ ≤ 1000000) then some ((⟨(Lib.repeatL [48] (Int.toNat (z : Int))).toArray⟩ : ByteArray), ()) else none) else none) else none) else none) = _
  rw [Int.toNat_natCast, repeat48]
  have hs : ByteArray.size ⟨#[48]⟩ = 1 := rfl
  simp (disch := omega) only [ss, cond_true, cond_false, Option.bind_some, hs]
  rfl
 have hl : (List.replicate z (48 : UInt8)).length = z := List.length_replicate ..
 simp (disch := omega) only [ss, cond_true, cond_false, Option.bind_some, szS, hw', hm, hR, hl, mk_app, h2]
theorem tdig {n : Nat} : IntKind.u8.wrap (IntKind.i64.wrap (48 + Int.tmod (n : Int) 10)) = ((UInt8.ofNat (48 + n % 10)).toNat : Int) := by
 rw [tmn (by omega), wr (by omega) (by omega), of48 (by omega), Go.IntWalk.u8_in _ ⟨by omega, by omega⟩]
 omega
theorem vdig_l1 (w : Nat) (hw : w ≤ 4) : ∀ (k i n : Nat) (y : List UInt8), w - i = k → i ≤ w → n ≤ 1000000 → y.length = i → vokref1_digits.l1 (n : Int) (w : Int) (i : Int) (I y) = some (mkS (dgs k n ++ y), ()) := by
 have hlim : limit = 17179869184 := rfl
 intro k
 induction k with
 | zero =>
  intro i n y hk hi2 hn hy
  rw [vokref1_digits.l1_eq]
  simp (disch := omega) only [ss, cond_true, cond_false, Option.bind_some, strOf_I]
  rfl
 | succ k ih =>
  intro i n y hk hi2 hn hy
  have hIl : (I y).length = y.length := by unfold I; rw [List.length_map]
  have e10 : Int.tdiv (n : Int) 10 = ((n / 10 : Nat) : Int) := by rw [tdn (by omega)]; omega
  rw [vokref1_digits.l1_eq, tdig, e10]
  have hc : [((UInt8.ofNat (48 + n % 10)).toNat : Int)] ++ I y = I (UInt8.ofNat (48 + n % 10) :: y) := rfl
  have hcl : [((UInt8.ofNat (48 + n % 10)).toNat : Int)].length = 1 := rfl
  simp (disch := omega) only [ss, cond_true, cond_false, Option.bind_some, hIl, hcl, hlim, hc]
  have := ih (i + 1) (n / 10) (UInt8.ofNat (48 + n % 10) :: y) (by omega) (by omega) (by omega) (by rw [List.length_cons, hy])
  rw [Int.natCast_add, Int.natCast_one] at this
  rw [this, dgs, List.append_assoc]
  rfl
theorem vdig (w n : Nat) (hw : w ≤ 4) (hn : n ≤ 1000000) : vokref1_digits.f (n : Int) (w : Int) = some (mkS (dgs w n), ()) := by
 have := vdig_l1 w hw w 0 n [] (by omega) (by omega) hn rfl
 rw [List.append_nil, Int.natCast_zero] at this
 rw [vokref1_digits.f_eq]
 exact this
def txtOf (y m d h i s : Nat) : List UInt8 := (dgs 4 y ++ (dgs 2 m ++ dgs 2 d)) ++ 84 :: (dgs 2 h ++ (dgs 2 i ++ dgs 2 s))
theorem txt_parse (y m d h i s : Nat) (hy : y < 10000) (hm : m < 100) (hd : d < 100) (hh : h < 100) (hi2 : i < 100) (hs : s < 100) : stamp_Parse.f (mkS (txtOf y m d h i s)) = (stamp_Make.f (y : Int) (m : Int) (d : Int) (h : Int) (i : Int) (s : Int)).bind fun t3 => some (t3.1, t3.2.1, ()) := by
 unfold txtOf
 obtain ⟨a, ha⟩ : ∃ a, a = dgs 4 y ++ (dgs 2 m ++ dgs 2 d) := ⟨_, rfl⟩
 obtain ⟨b, hb⟩ : ∃ b, b = dgs 2 h ++ (dgs 2 i ++ dgs 2 s) := ⟨_, rfl⟩
 have la : a.length = 8 := by rw [ha]; simp [dgs_len]
 have lb : b.length = 6 := by rw [hb]; simp [dgs_len]
 have da : digs a := by rw [ha, digs_app, digs_app]; exact ⟨dgs_dig _ _, dgs_dig _ _, dgs_dig _ _⟩
 have db : digs b := by rw [hb, digs_app, digs_app]; exact ⟨dgs_dig _ _, dgs_dig _ _, dgs_dig _ _⟩
 have va : dval 0 a = y * 10000 + m * 100 + d := by
  rw [ha, dval_app, dval_app, dval_mul (dgs 2 d), dval_mul (dgs 2 m), dgs_len, dgs_len, dgs_val 4 y hy, dgs_val 2 m hm, dgs_val 2 d hd]
  omega
 have vb : dval 0 b = h * 10000 + i * 100 + s := by
  rw [hb, dval_app, dval_app, dval_mul (dgs 2 s), dval_mul (dgs 2 i), dgs_len, dgs_len, dgs_val 2 h (by omega), dgs_val 2 i (by omega), dgs_val 2 s (by omega)]
  omega
 rw [← ha, ← hb]
 have hl : (a ++ 84 :: b).length = 15 := by rw [List.length_append, List.length_cons]; omega
 have h8 : bt (mkS (a ++ 84 :: b)) 8 = 84 := by
  have := bt_nat (mkS (a ++ 84 :: b)) 8
  have e : (a ++ 84 :: b).getD 8 0 = 84 := by
   rw [List.getD_eq_getElem?_getD, List.getElem?_append_right (by omega), la]
   rfl
  have t : bt (mkS (a ++ 84 :: b)) 8 = (((a ++ 84 :: b).getD 8 0).toNat : Int) := this
  rw [e] at t
  exact t
 have x1 : (mkS (a ++ 84 :: b)).extract 0 8 = mkS a := by
  rw [ex_S, List.drop_zero, ← la]
  simp
 have x2 : (mkS (a ++ 84 :: b)).extract 9 15 = mkS b := by
  have : (a ++ 84 :: b).drop 9 = b := by
   rw [show (9 : Nat) = a.length + 1 by omega, List.drop_append]
   simp
  rw [ex_S, this]
  rw [List.take_of_length_le (by omega)]
 have nA := (snum a (by omega)).1 da
 have nB := (snum b (by omega)).1 db
 rw [va] at nA
 rw [vb] at nB
 have t8 : (8 : Int).toNat = 8 := rfl
 have t9 : (9 : Int).toNat = 9 := rfl
 rw [stamp_Parse.f_eq]
 simp (disch := omega) only [ss, cond_true, cond_false, Option.bind_some, szS, hl, h8, stamp_Parse.l1_eq, t8, t9, x1, x2, nA, nB, stamp_Parse.l2_eq]
 rw [tdn (show (0 : Int) ≤ ((y * 10000 + m * 100 + d : Nat) : Int) by omega), tdn (show (0 : Int) ≤ ((y * 10000 + m * 100 + d : Nat) : Int) by omega), tmn (show (0 : Int) ≤ ((y * 10000 + m * 100 + d : Nat) : Int) by omega),
  tdn (show (0 : Int) ≤ ((h * 10000 + i * 100 + s : Nat) : Int) by omega), tdn (show (0 : Int) ≤ ((h * 10000 + i * 100 + s : Nat) : Int) by omega), tmn (show (0 : Int) ≤ ((h * 10000 + i * 100 + s : Nat) : Int) by omega)]
 have w1 : IntKind.i64.wrap (((y * 10000 + m * 100 + d : Nat) : Int) / 10000) = (y : Int) := by rw [wr (by omega) (by omega)]; omega
 have w2 : IntKind.i64.wrap (((y * 10000 + m * 100 + d : Nat) : Int) / 100) = ((y * 100 + m : Nat) : Int) := by rw [wr (by omega) (by omega)]; omega
 have w3 : IntKind.i64.wrap (((h * 10000 + i * 100 + s : Nat) : Int) / 10000) = (h : Int) := by rw [wr (by omega) (by omega)]; omega
 have w4 : IntKind.i64.wrap (((h * 10000 + i * 100 + s : Nat) : Int) / 100) = ((h * 100 + i : Nat) : Int) := by rw [wr (by omega) (by omega)]; omega
 rw [w1, w2, w3, w4, tmn (show (0 : Int) ≤ ((y * 100 + m : Nat) : Int) by omega), tmn (show (0 : Int) ≤ ((h * 100 + i : Nat) : Int) by omega)]
 rw [show ((y * 100 + m : Nat) : Int) % 100 = (m : Int) by omega, show ((y * 10000 + m * 100 + d : Nat) : Int) % 100 = (d : Int) by omega, show ((h * 100 + i : Nat) : Int) % 100 = (i : Int) by omega, show ((h * 10000 + i * 100 + s : Nat) : Int) % 100 = (s : Int) by omega]
theorem make_ok (y m d h i s n : Int) (hd : isDate n y m d) (h1 : 0 ≤ h ∧ h ≤ 23) (h2 : 0 ≤ i ∧ i ≤ 59) (h3 : 0 ≤ s ∧ s ≤ 59) : stamp_Make.f y m d h i s = some (n * 86400 + 3600 * h + 60 * i + s, 0, ()) := by
 have hb := date_bd hd
 rw [stamp_Make.f_eq, (days_spec y m d).1, if_pos hd.1, hd.2]
 simp (disch := omega) only [ss, cond_true, cond_false, Option.bind_some, gt_iff_lt, stamp_Make.l1_eq]
theorem mlen31 {y m d : Int} (h : validB y m d = true) : d ≤ 31 := by
 have := valid_iff.1 h
 have := mlen_bd y m
 omega
theorem text_spec (t : Int) (h1 : -62135596800 ≤ t) (h2 : t ≤ 253402300799) : ∃ s : List UInt8, s.length = 15 ∧ (∀ c ∈ s, c = 84 ∨ dig c) ∧ stamp_Text.f t = some (mkS s, 0, ()) ∧ vokref1_Text.f t = some (mkS s, 0, ()) ∧ stamp_Parse.f (mkS s) = some (t, 0, ()) := by
 obtain ⟨y, m, d, hd, e1, e2⟩ := date_spec (t / 86400) (by omega) (by omega)
 obtain ⟨hb1, hb2, hb3, hb4, _, _⟩ := date_bd hd
 obtain ⟨v1, v2, v3, v4⟩ := valid_iff.1 hd.1
 have v5 := mlen31 hd.1
 obtain ⟨yn, rfl⟩ := Int.eq_ofNat_of_zero_le (show 0 ≤ y by omega)
 obtain ⟨mn, rfl⟩ := Int.eq_ofNat_of_zero_le (show 0 ≤ m by omega)
 obtain ⟨dn', rfl⟩ := Int.eq_ofNat_of_zero_le (show 0 ≤ d by omega)
 obtain ⟨sn, hsn⟩ := Int.eq_ofNat_of_zero_le (show 0 ≤ t % 86400 by omega)
 have hsl : sn < 86400 := by omega
 obtain ⟨g1, g2⟩ := mday_spec t (by omega) (by omega)
 rw [hsn] at g1 g2
 have w1 : IntKind.i64.wrap (Int.tdiv (sn : Int) 3600) = ((sn / 3600 : Nat) : Int) := by rw [tdn (by omega), wr (by omega) (by omega)]; omega
 have w2 : Int.tmod (IntKind.i64.wrap (Int.tdiv (sn : Int) 60)) 60 = ((sn / 60 % 60 : Nat) : Int) := by rw [tdn (by omega), wr (by omega) (by omega), tmn (by omega)]; omega
 have w3 : Int.tmod (sn : Int) 60 = ((sn % 60 : Nat) : Int) := by rw [tmn (by omega)]; omega
 have q4 : (4 : Int) = ((4 : Nat) : Int) := rfl
 have q2 : (2 : Int) = ((2 : Nat) : Int) := rfl
 have s1 : stamp_digits.f (yn : Int) 4 = some (mkS (dgs 4 yn), ()) := sdig 4 yn (by omega) (by omega) (by omega)
 have s2 : stamp_digits.f (mn : Int) 2 = some (mkS (dgs 2 mn), ()) := sdig 2 mn (by omega) (by omega) (by omega)
 have s3 : stamp_digits.f (dn' : Int) 2 = some (mkS (dgs 2 dn'), ()) := sdig 2 dn' (by omega) (by omega) (by omega)
 have s4 : stamp_digits.f ((sn / 3600 : Nat) : Int) 2 = some (mkS (dgs 2 (sn / 3600)), ()) := sdig 2 _ (by omega) (by omega) (by omega)
 have s5 : stamp_digits.f ((sn / 60 % 60 : Nat) : Int) 2 = some (mkS (dgs 2 (sn / 60 % 60)), ()) := sdig 2 _ (by omega) (by omega) (by omega)
 have s6 : stamp_digits.f ((sn % 60 : Nat) : Int) 2 = some (mkS (dgs 2 (sn % 60)), ()) := sdig 2 _ (by omega) (by omega) (by omega)
 have u1 : vokref1_digits.f (yn : Int) 4 = some (mkS (dgs 4 yn), ()) := vdig 4 yn (by omega) (by omega)
 have u2 : vokref1_digits.f (mn : Int) 2 = some (mkS (dgs 2 mn), ()) := vdig 2 mn (by omega) (by omega)
 have u3 : vokref1_digits.f (dn' : Int) 2 = some (mkS (dgs 2 dn'), ()) := vdig 2 dn' (by omega) (by omega)
 have u4 : vokref1_digits.f ((sn / 3600 : Nat) : Int) 2 = some (mkS (dgs 2 (sn / 3600)), ()) := vdig 2 _ (by omega) (by omega)
 have u5 : vokref1_digits.f ((sn / 60 % 60 : Nat) : Int) 2 = some (mkS (dgs 2 (sn / 60 % 60)), ()) := vdig 2 _ (by omega) (by omega)
 have u6 : vokref1_digits.f ((sn % 60 : Nat) : Int) 2 = some (mkS (dgs 2 (sn % 60)), ()) := vdig 2 _ (by omega) (by omega)
 have hT : (⟨#[84]⟩ : ByteArray) = mkS [84] := rfl
 have ha : dgs 4 yn ++ dgs 2 mn ++ dgs 2 dn' ++ [84] ++ dgs 2 (sn / 3600) ++ dgs 2 (sn / 60 % 60) ++ dgs 2 (sn % 60) = txtOf yn mn dn' (sn / 3600) (sn / 60 % 60) (sn % 60) := by
  unfold txtOf
  simp
 refine ⟨txtOf yn mn dn' (sn / 3600) (sn / 60 % 60) (sn % 60), by unfold txtOf; simp [dgs_len], ?_, ?_, ?_, ?_⟩
 ·intro c hc
  unfold txtOf at hc
  simp only [List.mem_append, List.mem_cons] at hc
  rcases hc with (hc | hc | hc) | hc | hc | hc | hc
  ·exact .inr (dgs_dig _ _ c hc)
  ·exact .inr (dgs_dig _ _ c hc)
  ·exact .inr (dgs_dig _ _ c hc)
  ·exact .inl hc
  ·exact .inr (dgs_dig _ _ c hc)
  ·exact .inr (dgs_dig _ _ c hc)
  ·exact .inr (dgs_dig _ _ c hc)
 ·rw [stamp_Text.f_eq, g1]
  simp (disch := omega) only [ss, cond_true, cond_false, Option.bind_some, e1, s1, s2, s3, hT, w1, w2, w3, s4, s5, s6, szS, mk_app, List.length_append, List.length_singleton, dgs_len, ha]
 ·have hM : vokref1_May.f t = some (true, ()) := by rw [(may_mo t).2, dp ⟨h1, h2⟩]
  rw [vokref1_Text.f_eq, hM]
  simp (disch := omega) only [ss, cond_true, cond_false, Option.bind_some, g2, e2, u1, u2, u3, hT, w1, w2, w3, u4, u5, u6, szS, mk_app, List.length_append, List.length_singleton, dgs_len, ha]
 ·rw [txt_parse yn mn dn' _ _ _ (by omega) (by omega) (by omega) (by omega) (by omega) (by omega), make_ok _ _ _ _ _ _ (t / 86400) hd (by omega) (by omega) (by omega)]
  simp only [Option.bind_some]
  congr 2
  omega
end Go.GV.YtkkfgajlnpcpcaaGreatDoor
namespace Go.GV.YtkkfgajlnpcpcaaGreatDoor
open Go.Proofs
def opt (b : Bool) (name v : List UInt8) : List (List UInt8) := bif b then [name ++ 61 :: v] else []
def optU (b : Bool) (u : Up) : List Up := bif b then [u] else []
def tl : List (List UInt8) → List UInt8
 | [] => []
 | a :: l => 59 :: (a ++ tl l)
theorem tl_app : ∀ (l m : List (List UInt8)), tl (l ++ m) = tl l ++ tl m
 | [], m => rfl
 | a :: l, m => by
  show 59 :: (a ++ tl (l ++ m)) = (59 :: (a ++ tl l)) ++ tl m
  rw [tl_app l m]
  simp
theorem jn_tl : ∀ (a : List UInt8) (l : List (List UInt8)), jn 59 (a :: l) = a ++ tl l
 | a, [] => by simp [jn, tl]
 | a, b :: l => by
  show a ++ 59 :: jn 59 (b :: l) = _
  rw [jn_tl b l]
  rfl
theorem tl_len (b : Bool) (name v : List UInt8) : (tl (opt b name v)).length ≤ name.length + v.length + 2 := by
 cases b with
 | false => simp [opt, tl]
 | true =>
  simp [opt, tl]
  omega
theorem print1 (name v s : List UInt8) (b : Bool) (hn : name.length ≤ 20) (hv : v.length ≤ 3000) (hs : s.length ≤ 100000) : rule_Print_1.f (mkS name) (mkS v) b (mkS s, ()) = some ((mkS (s ++ tl (opt b name v)), ()), ()) := by
 rw [rule_Print_1.f_eq]
 cases b with
 | false =>
  simp only [cond_false]
  simp [opt, tl]
 | true =>
  have h59 : (⟨#[59]⟩ : ByteArray) = mkS [59] := rfl
  have h61 : (⟨#[61]⟩ : ByteArray) = mkS [61] := rfl
  simp (disch := omega) only [ss, cond_true, cond_false, Option.bind_some, h59, h61, mk_app, szS, List.length_append, List.length_singleton]
  have : s ++ ([59] ++ name ++ [61] ++ v) = s ++ tl (opt true name v) := by simp [opt, tl]
  rw [this]
theorem inter_jn (c : UInt8) : ∀ xs : List (List UInt8), Lib.join xs [c] = jn c xs
 | [] => rfl
 | [a] => by simp [Lib.join, List.intercalate, jn]
 | a :: b :: l => by
  have ih := inter_jn c (b :: l)
  unfold Lib.join List.intercalate at ih ⊢
  show _ = a ++ c :: jn c (b :: l)
  rw [← ih]
  simp [List.intersperse]
theorem join44 (xs : List (List UInt8)) (h : xs.length ≤ 1000) (hl : (jn 44 xs).length ≤ 1000000) : strings_Join.f (xs.map mkS) ⟨#[44]⟩ = some (mkS (jn 44 xs), ()) := by
 have hlim : limit = 17179869184 := rfl
 have e : joinL (xs.map mkS) ⟨#[44]⟩ = jn 44 xs := by
  unfold joinL
  rw [List.map_map]
  have : (xs.map ((fun x : ByteArray => x.data.toList) ∘ mkS)) = xs := by
   have : ((fun x : ByteArray => x.data.toList) ∘ mkS) = id := rfl
   rw [this, List.map_id]
  rw [this]
  exact inter_jn 44 xs
 rw [strings_Join.f_sem]
 show joinS (xs.map mkS) ⟨#[44]⟩ = _
 unfold joinS
 rw [e]
 simp (disch := omega) only [ss, cond_true, cond_false, Option.bind_some, List.length_map]
 rfl
theorem D_lenk : ∀ (k u : Nat), u < 10 ^ (k + 1) → (Lib.decDigits u).length ≤ k + 1 := by
 intro k
 induction k with
 | zero => intro u h; rw [D_len, Lib.nDigits_small (by simpa using h)]; omega
 | succ k ih =>
  intro u h
  by_cases hu : u < 10
  ·rw [D_len, Lib.nDigits_small hu]; omega
  ·have := ih (u / 10) (by rw [Nat.pow_succ] at h; omega)
   rw [D_len] at this ⊢
   rw [Lib.nDigits_big hu]
   omega
theorem itoa_l4 (n : Int) (h0 : -999 ≤ n) (h1 : n ≤ 9999) : (Lib.itoa n).length ≤ 4 := by
 by_cases hn : n < 0
 ·rw [itoa_neg hn, List.length_cons]
  have := D_lenk 2 n.natAbs (by omega)
  omega
 ·rw [itoa_pos hn]
  exact D_lenk 3 n.toNat (by omega)
theorem itoa_chr' {n : Int} : ∀ c ∈ Lib.itoa n, c = 45 ∨ dig c := by
 intro c hc
 by_cases hn : n < 0
 ·rw [itoa_neg hn] at hc
  rcases List.mem_cons.1 hc with h | h
  ·exact .inl h
  ·exact .inr (D_dig _ c h)
 ·rw [itoa_pos hn] at hc
  exact .inr (D_dig _ c hc)
theorem itoa_not {n : Int} {c : UInt8} (h1 : c ≠ 45) (h2 : ¬ dig c) : c ∉ Lib.itoa n := fun h => (itoa_chr' c h).elim h1 h2
theorem tot_le (k : Nat) : ∀ l : List (List UInt8), (∀ s ∈ l, s.length ≤ k) → tot l ≤ k * l.length
 | [], _ => Nat.zero_le _
 | a :: l, h => by
  have h1 := h a (by simp)
  have h2 := tot_le k l fun s hs => h s (List.mem_cons_of_mem _ hs)
  simp only [tot, List.length_cons]
  rw [Nat.mul_add]
  omega
def small (l : List Int) : Prop := ∀ n ∈ l, -366 ≤ n ∧ n ≤ 366
theorem itx_len (l : List Int) (h : l.length ≤ 60) (hb : small l) : (jn 44 (l.map Lib.itoa)).length ≤ 300 := by
 have h1 := jn_le 44 (l.map Lib.itoa)
 have h2 := tot_le 4 (l.map Lib.itoa) fun s hs => by
  obtain ⟨n, hn, e⟩ := List.mem_map.1 hs
  rw [← e]
  have := hb n hn
  exact itoa_l4 n (by omega) (by omega)
 rw [List.length_map] at h1 h2
 omega
theorem rnumbers_spec (l : List Int) (h : l.length ≤ 60) (hb : small l) : rule_numbers.f l = some (mkS (jn 44 (l.map Lib.itoa)), ()) := by
 have hlim : limit = 17179869184 := rfl
 have hlen := itx_len l h hb
 have hJ := join44 (l.map Lib.itoa) (by rw [List.length_map]; omega) (by omega)
 have key : ∀ (k i : Nat), l.length - i = k → i ≤ l.length → rule_numbers.l1 l l.length i (((l.take i).map Lib.itoa).map mkS) = some (mkS (jn 44 (l.map Lib.itoa)), ()) := by
  intro k
  induction k with
  | zero =>
   intro i hk hil
   have e : i = l.length := by omega
   subst e
   rw [rule_numbers.l1_eq, List.take_length, hJ]
   simp (disch := omega) only [ss, cond_true, cond_false, Option.bind_some]
  | succ k ih =>
   intro i hk hil
   have hlt : i < l.length := by omega
   have hn := hb _ (getD_mem' 0 hlt)
   have hI := itoa_sem (l.getD i 0) (by omega) (by omega)
   have := ih (i + 1) (by omega) (by omega)
   rw [take_getD' 0 hlt, List.map_append, List.map_append] at this
   have hl1 : (((l.take i).map Lib.itoa).map mkS).length = i := by simp; omega
   rw [rule_numbers.l1_eq]
   simp (disch := omega) only [ss, cond_true, cond_false, Option.bind_some, hI, hl1, List.length_singleton, hlim]
   exact this
 have := key _ 0 rfl (Nat.zero_le _)
 rw [Int.natCast_zero] at this
 rw [rule_numbers.f_eq]
 exact this
theorem print2 (name : List UInt8) (l : List Int) (s : List UInt8) (hn : name.length ≤ 20) (h : l.length ≤ 60) (hb : small l) (hs : s.length ≤ 100000) :
  rule_Print_2.f (mkS name) l (((mkS s, ()), ()), ()) = some ((((mkS (s ++ tl (opt (decide ((l.length : Int) > 0)) name (jn 44 (l.map Lib.itoa)))), ()), ()), ()), ()) := by
 have hl := itx_len l h hb
 rw [rule_Print_2.f_eq, rnumbers_spec l h hb]
 simp only [Option.bind_some]
 rw [print1 name _ s _ hn (by omega) hs]
 rfl
def dt (d : Dy) : List UInt8 := (if d.1 = 0 then [] else Lib.itoa d.1) ++ wd.getD d.2.1.toNat []
def smallD (l : List Dy) : Prop := ∀ d ∈ l, -53 ≤ d.1 ∧ d.1 ≤ 53 ∧ 0 ≤ d.2.1 ∧ d.2.1 ≤ 6
theorem fw7 : fw.length = 7 := rfl
theorem wd7 : wd.length = 7 := rfl
theorem getD_out {α : Type} {l : List α} {z : α} {i : Nat} (h : ¬ i < l.length) : l.getD i z = z := by
 rw [List.getD_eq_getElem?_getD, List.getElem?_eq_none (by omega)]
 rfl
theorem fw_len (i : Nat) : (fw.getD i []).length ≤ 8 := by
 by_cases h : i < fw.length
 ·exact (show ∀ s ∈ fw, s.length ≤ 8 by decide) _ (getD_mem' [] h)
 ·rw [getD_out h]
  exact Nat.zero_le _
theorem wd_len (i : Nat) : (wd.getD i []).length ≤ 2 := by
 by_cases h : i < wd.length
 ·exact (show ∀ s ∈ wd, s.length ≤ 2 by decide) _ (getD_mem' [] h)
 ·rw [getD_out h]
  exact Nat.zero_le _
theorem dt_len (d : Dy) (h : -53 ≤ d.1 ∧ d.1 ≤ 53) : (dt d).length ≤ 6 := by
 have h1 := wd_len d.2.1.toNat
 have h2 := itoa_l4 d.1 (by omega) (by omega)
 unfold dt
 rw [List.length_append]
 split
 ·rw [List.length_nil]; omega
 ·omega
theorem dtx_len (l : List Dy) (h : l.length ≤ 60) (hb : smallD l) : (jn 44 (l.map dt)).length ≤ 420 := by
 have h1 := jn_le 44 (l.map dt)
 have h2 := tot_le 6 (l.map dt) fun s hs => by
  obtain ⟨n, hn, e⟩ := List.mem_map.1 hs
  rw [← e]
  have := hb n hn
  exact dt_len n ⟨this.1, this.2.1⟩
 rw [List.length_map] at h1 h2
 omega
theorem rdays_spec (l : List Dy) (h : l.length ≤ 60) (hb : smallD l) : rule_days.f l = some (mkS (jn 44 (l.map dt)), ()) := by
 have hlim : limit = 17179869184 := rfl
 have hlen := dtx_len l h hb
 have hJ := join44 (l.map dt) (by rw [List.length_map]; omega) (by omega)
 have key : ∀ (k i : Nat), l.length - i = k → i ≤ l.length → rule_days.l1 l l.length i (((l.take i).map dt).map mkS) = some (mkS (jn 44 (l.map dt)), ()) := by
  intro k
  induction k with
  | zero =>
   intro i hk hil
   have e : i = l.length := by omega
   subst e
   rw [rule_days.l1_eq, List.take_length, hJ]
   simp (disch := omega) only [ss, cond_true, cond_false, Option.bind_some]
  | succ k ih =>
   intro i hk hil
   have hlt : i < l.length := by omega
   have hn := hb _ (getD_mem' ((0, 0, ()) : Dy) hlt)
   have := ih (i + 1) (by omega) (by omega)
   rw [take_getD' ((0, 0, ()) : Dy) hlt, List.map_append, List.map_append] at this
   have hl1 : (((l.take i).map dt).map mkS).length = i := by simp; omega
   have hs1 : [dt (l.getD i ((0, 0, ()) : Dy))].map mkS = [mkS (dt (l.getD i ((0, 0, ()) : Dy)))] := rfl
   have hs2 : [l.getD i ((0, 0, ()) : Dy)].map dt = [dt (l.getD i ((0, 0, ()) : Dy))] := rfl
   rw [hs2, hs1] at this
   have hdl := dt_len (l.getD i ((0, 0, ()) : Dy)) ⟨hn.1, hn.2.1⟩
   rw [rule_days.l1_eq]
   generalize hd : l.getD i ((0, 0, ()) : Dy) = d at hn this hdl
   have hd' : l.getD i ((0, 0, ()) : Int × Int × Unit) = d := hd
   have hI := itoa_sem d.1 (by omega) (by omega)
   have hgw := gm wd d.2.1.toNat (by rw [wd7]; omega)
   have hwl : ((wd.map mkS).length : Int) = 7 := rfl
   have hl4 := itoa_l4 d.1 (by omega) (by omega)
   have hl2 := wd_len d.2.1.toNat
   by_cases c : d.1 = 0
   ·have e : dt d = wd.getD d.2.1.toNat [] := by unfold dt; rw [if_pos c]; rfl
    rw [e] at this
    simp (disch := omega) only [ss, cond_true, cond_false, Option.bind_some, hd', weekdays_eq, hwl, hgw, rule_days.l2_eq, hl1, List.length_singleton, hlim]
    exact this
   ·have e : dt d = Lib.itoa d.1 ++ wd.getD d.2.1.toNat [] := by unfold dt; rw [if_neg c]
    rw [e] at this
    simp (disch := omega) only [ss, cond_true, cond_false, Option.bind_some, hd', weekdays_eq, hwl, hgw, hI, szS, mk_app, rule_days.l2_eq, hl1, List.length_singleton, hlim]
    exact this
 have := key _ 0 rfl (Nat.zero_le _)
 rw [Int.natCast_zero] at this
 rw [rule_days.f_eq]
 exact this
theorem wi_small {l : List Int} {lo hi : Int} {z : Bool} (h : wi l lo hi z) (h1 : -366 ≤ lo) (h2 : hi ≤ 366) : l.length ≤ 60 ∧ small l := by
 refine ⟨h.2, fun n hn => ?_⟩
 obtain ⟨j, hj, e⟩ := List.getElem_of_mem hn
 have h3 := (h.1 j hj).1
 unfold okI at h3
 rw [getD_eq 0 hj, e] at h3
 omega
theorem dwi_small {l : List Dy} (h : dwi l) : l.length ≤ 60 ∧ smallD l := by
 refine ⟨h.2, fun n hn => ?_⟩
 obtain ⟨j, hj, e⟩ := List.getElem_of_mem hn
 have h3 := h.1 j hj
 unfold okD gD at h3
 rw [getD_eq _ hj, e] at h3
 exact ⟨h3.1, h3.2.1, h3.2.2.1, h3.2.2.2.1⟩
open Classical in
/-- A moment's text. -/
noncomputable def utx (t : Int) : List UInt8 := if h : -62135596800 ≤ t ∧ t ≤ 253402300799 then Classical.choose (text_spec t h.1 h.2) else []
theorem utx_all (t : Int) (h : -62135596800 ≤ t ∧ t ≤ 253402300799) : (utx t).length = 15 ∧ (∀ c ∈ utx t, c = 84 ∨ dig c) ∧ stamp_Text.f t = some (mkS (utx t), 0, ()) ∧ vokref1_Text.f t = some (mkS (utx t), 0, ()) ∧ stamp_Parse.f (mkS (utx t)) = some (t, 0, ()) := by
 unfold utx
 rw [dif_pos h]
 exact Classical.choose_spec (text_spec t h.1 h.2)
theorem utx_spec (t : Int) (h : -62135596800 ≤ t ∧ t ≤ 253402300799) : (utx t).length ≤ 15 ∧ stamp_Text.f t = some (mkS (utx t), 0, ()) ∧ stamp_Parse.f (mkS (utx t)) = some (t, 0, ()) := by
 obtain ⟨h1, _, h2, _, h3⟩ := utx_all t h
 exact ⟨by omega, h2, h3⟩
theorem bounds (f iv ct un wk : Int) (en : Bool) (mo we yd md : List Int) (dy : List Dy) (ho mi se po : List Int) (hp : mayP f iv ct un wk en mo we yd md dy ho mi se po) :
  (1 ≤ f ∧ f ≤ 7 ∧ 1 ≤ iv ∧ iv ≤ 1000) ∧ (0 ≤ ct ∧ ct ≤ 4096 ∧ 0 ≤ wk ∧ wk ≤ 6) ∧ (-62135596800 ≤ un ∧ un ≤ 253402300799) ∧ (mo.length ≤ 60 ∧ small mo) ∧ (we.length ≤ 60 ∧ small we) ∧ (yd.length ≤ 60 ∧ small yd) ∧ (md.length ≤ 60 ∧ small md) ∧ (dy.length ≤ 60 ∧ smallD dy) ∧ (ho.length ≤ 60 ∧ small ho) ∧ (mi.length ≤ 60 ∧ small mi) ∧ (se.length ≤ 60 ∧ small se) ∧ (po.length ≤ 60 ∧ small po) := by
 obtain ⟨⟨h1, h2, h3⟩, ⟨l1, l2, l3, l4, l5, l6, l7, l8, l9, _⟩, _⟩ := hp
 refine ⟨⟨h1.1, h1.2.1, h1.2.2.1, h1.2.2.2.1⟩, ⟨h1.2.2.2.2.1, h1.2.2.2.2.2.1, h1.2.2.2.2.2.2.1, h1.2.2.2.2.2.2.2⟩, ?_, wi_small l1 (by omega) (by omega), wi_small l2 (by omega) (by omega), wi_small l3 (by omega) (by omega), wi_small l4 (by omega) (by omega), dwi_small l9, wi_small l5 (by omega) (by omega), wi_small l6 (by omega) (by omega), wi_small l7 (by omega) (by omega), wi_small l8 (by omega) (by omega)⟩
 cases en with
 | true => exact (h2 rfl).1
 | false => rw [h3 rfl]; omega
section
variable (f iv ct un wk : Int) (en : Bool) (mo we yd md : List Int) (dy : List Dy) (ho mi se po : List Int)
noncomputable def rest : List (List UInt8) :=
 opt (!decide (iv = 1)) [73, 78, 84, 69, 82, 86, 65, 76] (Lib.itoa iv) ++ (opt (!decide (ct = 0)) [67, 79, 85, 78, 84] (Lib.itoa ct) ++ (opt (en) [85, 78, 84, 73, 76] (utx un) ++ (opt (decide ((mo.length : Int) > 0)) [66, 89, 77, 79, 78, 84, 72] (jn 44 (mo.map Lib.itoa)) ++ (opt (decide ((we.length : Int) > 0)) [66, 89, 87, 69, 69, 75, 78, 79] (jn 44 (we.map Lib.itoa)) ++ (opt (decide ((yd.length : Int) > 0)) [66, 89, 89, 69, 65, 82, 68, 65, 89] (jn 44 (yd.map Lib.itoa)) ++ (opt (decide ((md.length : Int) > 0)) [66, 89, 77, 79, 78, 84, 72, 68, 65, 89] (jn 44 (md.map Lib.itoa)) ++ (opt (decide ((dy.length : Int) > 0)) [66, 89, 68, 65, 89] (jn 44 (dy.map dt)) ++ (opt (decide ((ho.length : Int) > 0)) [66, 89, 72, 79, 85, 82] (jn 44 (ho.map Lib.itoa)) ++ (opt (decide ((mi.length : Int) > 0)) [66, 89, 77, 73, 78, 85, 84, 69] (jn 44 (mi.map Lib.itoa)) ++ (opt (decide ((se.length : Int) > 0)) [66, 89, 83, 69, 67, 79, 78, 68] (jn 44 (se.map Lib.itoa)) ++ (opt (decide ((po.length : Int) > 0)) [66, 89, 83, 69, 84, 80, 79, 83] (jn 44 (po.map Lib.itoa)) ++ (opt (!decide (wk = 0)) [87, 75, 83, 84] (wd.getD wk.toNat [])))))))))))))
noncomputable def parts : List (List UInt8) := ([70, 82, 69, 81] ++ 61 :: fw.getD (f - 1).toNat []) :: rest iv ct un wk en mo we yd md dy ho mi se po
def ups : List Up :=
 .fr f :: (optU (!decide (iv = 1)) (.iv iv) ++ (optU (!decide (ct = 0)) (.ct ct) ++ (optU (en) (.un un) ++ (optU (decide ((mo.length : Int) > 0)) (.mo mo) ++ (optU (decide ((we.length : Int) > 0)) (.we we) ++ (optU (decide ((yd.length : Int) > 0)) (.yd yd) ++ (optU (decide ((md.length : Int) > 0)) (.md md) ++ (optU (decide ((dy.length : Int) > 0)) (.dy dy) ++ (optU (decide ((ho.length : Int) > 0)) (.ho ho) ++ (optU (decide ((mi.length : Int) > 0)) (.mi mi) ++ (optU (decide ((se.length : Int) > 0)) (.se se) ++ (optU (decide ((po.length : Int) > 0)) (.po po) ++ (optU (!decide (wk = 0)) (.wk wk))))))))))))))
theorem print_spec (hM : rule_May.f (f, iv, ct, un, wk, en, mo, we, yd, md, dy, ho, mi, se, po, ()) = some (true, ())) (hp : mayP f iv ct un wk en mo we yd md dy ho mi se po) : rule_Print.f (f, iv, ct, un, wk, en, mo, we, yd, md, dy, ho, mi, se, po, ()) = some (mkS (jn 59 (parts f iv ct un wk en mo we yd md dy ho mi se po)), 0, ()) ∧ (jn 59 (parts f iv ct un wk en mo we yd md dy ho mi se po)).length ≤ 4096 := by
 obtain ⟨b1, b2, b3, bmo, bwe, byd, bmd, bdy, bho, bmi, bse, bpo⟩ := bounds f iv ct un wk en mo we yd md dy ho mi se po hp
 have hwf : (fw.getD (f - 1).toNat []).length ≤ 8 := fw_len _
 have hwk : (wd.getD wk.toNat []).length ≤ 2 := wd_len _
 obtain ⟨u1, u2, u3⟩ := utx_spec un b3
 have li := itoa_l4 iv (by omega) (by omega)
 have lc := itoa_l4 ct (by omega) (by omega)
 obtain ⟨s0, e0⟩ : ∃ s, s = [70, 82, 69, 81] ++ 61 :: fw.getD (f - 1).toNat [] := ⟨_, rfl⟩
 have n0 : ([70, 82, 69, 81] : List UInt8).length = 4 := rfl
 have l0 : s0.length ≤ 13 := by rw [e0]; simp only [List.length_append, List.length_cons, List.length_nil]; omega
 have p1 := print1 [73, 78, 84, 69, 82, 86, 65, 76] (Lib.itoa iv) s0 (!decide (iv = 1)) (by decide) (by omega) (by omega)
 have q1 := tl_len (!decide (iv = 1)) [73, 78, 84, 69, 82, 86, 65, 76] (Lib.itoa iv)
 obtain ⟨s1, e1⟩ : ∃ s, s = s0 ++ tl (opt (!decide (iv = 1)) [73, 78, 84, 69, 82, 86, 65, 76] (Lib.itoa iv)) := ⟨_, rfl⟩
 rw [← e1] at p1
 have n1 : ([73, 78, 84, 69, 82, 86, 65, 76] : List UInt8).length = 8 := rfl
 have l1 : s1.length ≤ s0.length + 14 := by rw [e1, List.length_append]; omega
 have p2 := print1 [67, 79, 85, 78, 84] (Lib.itoa ct) s1 (!decide (ct = 0)) (by decide) (by omega) (by omega)
 have q2 := tl_len (!decide (ct = 0)) [67, 79, 85, 78, 84] (Lib.itoa ct)
 obtain ⟨s2, e2⟩ : ∃ s, s = s1 ++ tl (opt (!decide (ct = 0)) [67, 79, 85, 78, 84] (Lib.itoa ct)) := ⟨_, rfl⟩
 rw [← e2] at p2
 have n2 : ([67, 79, 85, 78, 84] : List UInt8).length = 5 := rfl
 have l2 : s2.length ≤ s1.length + 11 := by rw [e2, List.length_append]; omega
 have p3 := print1 [85, 78, 84, 73, 76] (utx un) s2 (en) (by decide) (by omega) (by omega)
 have q3 := tl_len (en) [85, 78, 84, 73, 76] (utx un)
 obtain ⟨s3, e3⟩ : ∃ s, s = s2 ++ tl (opt (en) [85, 78, 84, 73, 76] (utx un)) := ⟨_, rfl⟩
 rw [← e3] at p3
 have n3 : ([85, 78, 84, 73, 76] : List UInt8).length = 5 := rfl
 have l3 : s3.length ≤ s2.length + 22 := by rw [e3, List.length_append]; omega
 have lmo := itx_len mo bmo.1 bmo.2
 have p4 := print2 [66, 89, 77, 79, 78, 84, 72] mo s3 (by decide) bmo.1 bmo.2 (by omega)
 have q4 := tl_len (decide ((mo.length : Int) > 0)) [66, 89, 77, 79, 78, 84, 72] (jn 44 (mo.map Lib.itoa))
 obtain ⟨s4, e4⟩ : ∃ s, s = s3 ++ tl (opt (decide ((mo.length : Int) > 0)) [66, 89, 77, 79, 78, 84, 72] (jn 44 (mo.map Lib.itoa))) := ⟨_, rfl⟩
 rw [← e4] at p4
 have n4 : ([66, 89, 77, 79, 78, 84, 72] : List UInt8).length = 7 := rfl
 have l4 : s4.length ≤ s3.length + 309 := by rw [e4, List.length_append]; omega
 have lwe := itx_len we bwe.1 bwe.2
 have p5 := print2 [66, 89, 87, 69, 69, 75, 78, 79] we s4 (by decide) bwe.1 bwe.2 (by omega)
 have q5 := tl_len (decide ((we.length : Int) > 0)) [66, 89, 87, 69, 69, 75, 78, 79] (jn 44 (we.map Lib.itoa))
 obtain ⟨s5, e5⟩ : ∃ s, s = s4 ++ tl (opt (decide ((we.length : Int) > 0)) [66, 89, 87, 69, 69, 75, 78, 79] (jn 44 (we.map Lib.itoa))) := ⟨_, rfl⟩
 rw [← e5] at p5
 have n5 : ([66, 89, 87, 69, 69, 75, 78, 79] : List UInt8).length = 8 := rfl
 have l5 : s5.length ≤ s4.length + 310 := by rw [e5, List.length_append]; omega
 have lyd := itx_len yd byd.1 byd.2
 have p6 := print2 [66, 89, 89, 69, 65, 82, 68, 65, 89] yd s5 (by decide) byd.1 byd.2 (by omega)
 have q6 := tl_len (decide ((yd.length : Int) > 0)) [66, 89, 89, 69, 65, 82, 68, 65, 89] (jn 44 (yd.map Lib.itoa))
 obtain ⟨s6, e6⟩ : ∃ s, s = s5 ++ tl (opt (decide ((yd.length : Int) > 0)) [66, 89, 89, 69, 65, 82, 68, 65, 89] (jn 44 (yd.map Lib.itoa))) := ⟨_, rfl⟩
 rw [← e6] at p6
 have n6 : ([66, 89, 89, 69, 65, 82, 68, 65, 89] : List UInt8).length = 9 := rfl
 have l6 : s6.length ≤ s5.length + 311 := by rw [e6, List.length_append]; omega
 have lmd := itx_len md bmd.1 bmd.2
 have p7 := print2 [66, 89, 77, 79, 78, 84, 72, 68, 65, 89] md s6 (by decide) bmd.1 bmd.2 (by omega)
 have q7 := tl_len (decide ((md.length : Int) > 0)) [66, 89, 77, 79, 78, 84, 72, 68, 65, 89] (jn 44 (md.map Lib.itoa))
 obtain ⟨s7, e7⟩ : ∃ s, s = s6 ++ tl (opt (decide ((md.length : Int) > 0)) [66, 89, 77, 79, 78, 84, 72, 68, 65, 89] (jn 44 (md.map Lib.itoa))) := ⟨_, rfl⟩
 rw [← e7] at p7
 have n7 : ([66, 89, 77, 79, 78, 84, 72, 68, 65, 89] : List UInt8).length = 10 := rfl
 have l7 : s7.length ≤ s6.length + 312 := by rw [e7, List.length_append]; omega
 have ldy := dtx_len dy bdy.1 bdy.2
 have p8 := print1 [66, 89, 68, 65, 89] (jn 44 (dy.map dt)) s7 (decide ((dy.length : Int) > 0)) (by decide) (by omega) (by omega)
 have q8 := tl_len (decide ((dy.length : Int) > 0)) [66, 89, 68, 65, 89] (jn 44 (dy.map dt))
 obtain ⟨s8, e8⟩ : ∃ s, s = s7 ++ tl (opt (decide ((dy.length : Int) > 0)) [66, 89, 68, 65, 89] (jn 44 (dy.map dt))) := ⟨_, rfl⟩
 rw [← e8] at p8
 have n8 : ([66, 89, 68, 65, 89] : List UInt8).length = 5 := rfl
 have l8 : s8.length ≤ s7.length + 427 := by rw [e8, List.length_append]; omega
 have lho := itx_len ho bho.1 bho.2
 have p9 := print2 [66, 89, 72, 79, 85, 82] ho s8 (by decide) bho.1 bho.2 (by omega)
 have q9 := tl_len (decide ((ho.length : Int) > 0)) [66, 89, 72, 79, 85, 82] (jn 44 (ho.map Lib.itoa))
 obtain ⟨s9, e9⟩ : ∃ s, s = s8 ++ tl (opt (decide ((ho.length : Int) > 0)) [66, 89, 72, 79, 85, 82] (jn 44 (ho.map Lib.itoa))) := ⟨_, rfl⟩
 rw [← e9] at p9
 have n9 : ([66, 89, 72, 79, 85, 82] : List UInt8).length = 6 := rfl
 have l9 : s9.length ≤ s8.length + 308 := by rw [e9, List.length_append]; omega
 have lmi := itx_len mi bmi.1 bmi.2
 have p10 := print2 [66, 89, 77, 73, 78, 85, 84, 69] mi s9 (by decide) bmi.1 bmi.2 (by omega)
 have q10 := tl_len (decide ((mi.length : Int) > 0)) [66, 89, 77, 73, 78, 85, 84, 69] (jn 44 (mi.map Lib.itoa))
 obtain ⟨s10, e10⟩ : ∃ s, s = s9 ++ tl (opt (decide ((mi.length : Int) > 0)) [66, 89, 77, 73, 78, 85, 84, 69] (jn 44 (mi.map Lib.itoa))) := ⟨_, rfl⟩
 rw [← e10] at p10
 have n10 : ([66, 89, 77, 73, 78, 85, 84, 69] : List UInt8).length = 8 := rfl
 have l10 : s10.length ≤ s9.length + 310 := by rw [e10, List.length_append]; omega
 have lse := itx_len se bse.1 bse.2
 have p11 := print2 [66, 89, 83, 69, 67, 79, 78, 68] se s10 (by decide) bse.1 bse.2 (by omega)
 have q11 := tl_len (decide ((se.length : Int) > 0)) [66, 89, 83, 69, 67, 79, 78, 68] (jn 44 (se.map Lib.itoa))
 obtain ⟨s11, e11⟩ : ∃ s, s = s10 ++ tl (opt (decide ((se.length : Int) > 0)) [66, 89, 83, 69, 67, 79, 78, 68] (jn 44 (se.map Lib.itoa))) := ⟨_, rfl⟩
 rw [← e11] at p11
 have n11 : ([66, 89, 83, 69, 67, 79, 78, 68] : List UInt8).length = 8 := rfl
 have l11 : s11.length ≤ s10.length + 310 := by rw [e11, List.length_append]; omega
 have lpo := itx_len po bpo.1 bpo.2
 have p12 := print2 [66, 89, 83, 69, 84, 80, 79, 83] po s11 (by decide) bpo.1 bpo.2 (by omega)
 have q12 := tl_len (decide ((po.length : Int) > 0)) [66, 89, 83, 69, 84, 80, 79, 83] (jn 44 (po.map Lib.itoa))
 obtain ⟨s12, e12⟩ : ∃ s, s = s11 ++ tl (opt (decide ((po.length : Int) > 0)) [66, 89, 83, 69, 84, 80, 79, 83] (jn 44 (po.map Lib.itoa))) := ⟨_, rfl⟩
 rw [← e12] at p12
 have n12 : ([66, 89, 83, 69, 84, 80, 79, 83] : List UInt8).length = 8 := rfl
 have l12 : s12.length ≤ s11.length + 310 := by rw [e12, List.length_append]; omega
 have p13 := print1 [87, 75, 83, 84] (wd.getD wk.toNat []) s12 (!decide (wk = 0)) (by decide) (by omega) (by omega)
 have q13 := tl_len (!decide (wk = 0)) [87, 75, 83, 84] (wd.getD wk.toNat [])
 obtain ⟨s13, e13⟩ : ∃ s, s = s12 ++ tl (opt (!decide (wk = 0)) [87, 75, 83, 84] (wd.getD wk.toNat [])) := ⟨_, rfl⟩
 rw [← e13] at p13
 have n13 : ([87, 75, 83, 84] : List UInt8).length = 4 := rfl
 have l13 : s13.length ≤ s12.length + 8 := by rw [e13, List.length_append]; omega
 have hfin : s13 = jn 59 (parts f iv ct un wk en mo we yd md dy ho mi se po) := by
  unfold parts rest
  rw [jn_tl, ← e0]
  simp only [tl_app]
  rw [e13, e12, e11, e10, e9, e8, e7, e6, e5, e4, e3, e2, e1]
  simp only [List.append_assoc]
 refine ⟨?_, by rw [← hfin]; omega⟩
 have hw : IntKind.i64.wrap (f - 1) = f - 1 := wr (by omega) (by omega)
 have hgf := gm fw (f - 1).toNat (by rw [fw7]; omega)
 have hgw := gm wd wk.toNat (by rw [wd7]; omega)
 have hfl : ((fw.map mkS).length : Int) = 7 := rfl
 have hwl : ((wd.map mkS).length : Int) = 7 := rfl
 have hIi := itoa_sem iv (by omega) (by omega)
 have hIc := itoa_sem ct (by omega) (by omega)
 have hD := rdays_spec dy bdy.1 bdy.2
 have hF : (⟨#[70, 82, 69, 81, 61]⟩ : ByteArray) = mkS [70, 82, 69, 81, 61] := rfl
 have hs0 : [70, 82, 69, 81, 61] ++ fw.getD (f - 1).toNat [] = s0 := by rw [e0]; rfl
 rw [rule_Print.f_eq]
 simp only [hM, Option.bind_some, Bool.not_true, cond_false, words_eq, hw, weekdays_eq, hgf, hF, mk_app, hs0, u2, hIi, hIc, hD, hgw, szS, hfl, hwl, nm0, nm1, nm2, nm3, nm4, nm5, nm6, nm7, nm8, nm9, nm10, nm11, nm12, nm13]
 simp (disch := omega) only [ss, cond_true, cond_false, Option.bind_some, List.length_cons, List.length_nil, p1, p2, p3, p4, p5, p6, p7, p8, p9, p10, p11, p12, p13]
 rw [hfin]
end
theorem opt_good (b : Bool) (name v : List UInt8) (u : Up) (h : b = true → Good (name ++ 61 :: v) u) : All2 Good (opt b name v) (optU b u) := by
 cases b with
 | false => exact trivial
 | true => exact ⟨h rfl, trivial⟩
theorem optU_sub (b : Bool) (u : Up) : List.Sublist ((optU b u).map Up.key) [u.key] := by
 cases b with
 | false => exact List.nil_sublist _
 | true => exact List.Sublist.refl _
theorem apAll_app (r : Rl) (us vs : List Up) : apAll r (us ++ vs) = apAll (apAll r us) vs := by unfold apAll; rw [List.foldl_append]
theorem pw_of_adj {α : Type} (R : α → α → Prop) (tr : ∀ a b c, R a b → R b c → R a c) (z : α) : ∀ l : List α, (∀ j, 0 < j → j < l.length → R (l.getD (j - 1) z) (l.getD j z)) → l.Pairwise R
 | [], _ => List.Pairwise.nil
 | [a], _ => List.pairwise_singleton ..
 | a :: b :: l, h => by
  have ih := pw_of_adj R tr z (b :: l) fun j h0 hj => by
   have := h (j + 1) (by omega) (by simp at hj ⊢; omega)
   obtain ⟨i, rfl⟩ : ∃ i, j = i + 1 := ⟨j - 1, by omega⟩
   exact this
  have h1 : R a b := h 1 (by omega) (by simp)
  refine List.pairwise_cons.2 ⟨fun x hx => ?_, ih⟩
  rcases List.mem_cons.1 hx with e | hx
  ·rw [e]; exact h1
  ·exact tr a b x h1 ((List.pairwise_cons.1 ih).1 x hx)
theorem wi_rises {l : List Int} {lo hi : Int} {z : Bool} (h : wi l lo hi z) : rises l :=
 pw_of_adj (fun a b : Int => a < b) (fun _ _ _ => Int.lt_trans) 0 l fun j h0 hj => (h.1 j hj).2 h0
theorem dwi_rises {l : List Dy} (h : dwi l) : risesD l :=
 pw_of_adj dyLt (fun a b c h g => by unfold dyLt at *; omega) ((0, 0, ()) : Dy) l fun j h0 hj => (h.1 j hj).2.2.2.2 h0
theorem num_itoa (n : Int) (h0 : -999999999 ≤ n) (h1 : n ≤ 999999999) : rule_number.f (mkS (Lib.itoa n)) = some (n, true, ()) := by
 have hl := itoa_bound (n := n) (by omega) (by omega)
 rcases number_spec (Lib.itoa n) (by omega) with ⟨m, hm, e⟩ | ⟨hno, _⟩
 ·rw [e, isN_uniq hm ⟨rfl, h0, h1⟩]
 ·exact absurd ⟨rfl, h0, h1⟩ (hno n)
theorem good_FREQ (f : Int) (h0 : 1 ≤ f) (h1 : f ≤ 7) : Good ([70, 82, 69, 81] ++ 61 :: fw.getD (f - 1).toNat []) (.fr f) := by
 refine ⟨_, rfl, by show (61 : UInt8) ∉ [70, 82, 69, 81]; decide, fun r => ?_⟩
 show rule_part.f r (mkS [70, 82, 69, 81]) _ = _
 have hp : posF 0 fw (fw.getD (f - 1).toNat []) = f - 1 := by
  have : f = 1 ∨ f = 2 ∨ f = 3 ∨ f = 4 ∨ f = 5 ∨ f = 6 ∨ f = 7 := by omega
  rcases this with rfl | rfl | rfl | rfl | rfl | rfl | rfl <;> rfl
 rw [eqp_FREQ, index_spec fw _ (by decide), hp]
 have hw : IntKind.i64.wrap (f - 1 + 1) = f := by rw [wr (by omega) (by omega)]; omega
 show some (decide (IntKind.i64.wrap (f - 1 + 1) > 0), (Up.fr (IntKind.i64.wrap (f - 1 + 1))).ap r, ()) = _
 rw [hw, dp (show f > 0 by omega)]
theorem good_WKST (w : Int) (h0 : 0 ≤ w) (h1 : w ≤ 6) : Good ([87, 75, 83, 84] ++ 61 :: wd.getD w.toNat []) (.wk w) := by
 refine ⟨_, rfl, by show (61 : UInt8) ∉ [87, 75, 83, 84]; decide, fun r => ?_⟩
 show rule_part.f r (mkS [87, 75, 83, 84]) _ = _
 have hp : posF 0 wd (wd.getD w.toNat []) = w := by
  have : w = 0 ∨ w = 1 ∨ w = 2 ∨ w = 3 ∨ w = 4 ∨ w = 5 ∨ w = 6 := by omega
  rcases this with rfl | rfl | rfl | rfl | rfl | rfl | rfl <;> rfl
 rw [eqp_WKST, index_spec wd _ (by decide), hp]
 show some (decide (w ≥ 0), (Up.wk w).ap r, ()) = _
 rw [dp (show w ≥ 0 from h0)]
theorem good_INTERVAL (n : Int) (h0 : 0 ≤ n) (h1 : n ≤ 9999) : Good ([73, 78, 84, 69, 82, 86, 65, 76] ++ 61 :: Lib.itoa n) (.iv n) := by
 refine ⟨_, rfl, by show (61 : UInt8) ∉ [73, 78, 84, 69, 82, 86, 65, 76]; decide, fun r => ?_⟩
 show rule_part.f r (mkS [73, 78, 84, 69, 82, 86, 65, 76]) _ = _
 rw [eqp_INTERVAL, num_itoa n (by omega) (by omega)]
 rfl
theorem good_COUNT (n : Int) (h0 : 0 ≤ n) (h1 : n ≤ 9999) : Good ([67, 79, 85, 78, 84] ++ 61 :: Lib.itoa n) (.ct n) := by
 refine ⟨_, rfl, by show (61 : UInt8) ∉ [67, 79, 85, 78, 84]; decide, fun r => ?_⟩
 show rule_part.f r (mkS [67, 79, 85, 78, 84]) _ = _
 rw [eqp_COUNT, num_itoa n (by omega) (by omega)]
 rfl
theorem good_UNTIL (t : Int) (s : List UInt8) (h : stamp_Parse.f (mkS s) = some (t, 0, ())) : Good ([85, 78, 84, 73, 76] ++ 61 :: s) (.un t) := by
 refine ⟨_, rfl, by show (61 : UInt8) ∉ [85, 78, 84, 73, 76]; decide, fun r => ?_⟩
 show rule_part.f r (mkS [85, 78, 84, 73, 76]) _ = _
 rw [eqp_UNTIL, h]
 rfl
theorem all_isN' : ∀ (l : List Int), small l → All2 isN (l.map Lib.itoa) l
 | [], _ => trivial
 | n :: l, h => ⟨⟨rfl, by have := h n (by simp); omega, by have := h n (by simp); omega⟩, all_isN' l fun x hx => h x (List.mem_cons_of_mem _ hx)⟩
theorem all2_uniq {α β : Type} {R : α → β → Prop} (hu : ∀ a b c, R a b → R a c → b = c) : ∀ {a : List α} {b c : List β}, All2 R a b → All2 R a c → b = c
 | [], [], [], _, _ => rfl
 | x :: a, y :: b, z :: c, h, g => by rw [hu x y z h.1 g.1, all2_uniq hu h.2 g.2]
 | [], _ :: _, _, h, _ => h.elim
 | [], [], _ :: _, _, g => g.elim
 | _ :: _, [], _, h, _ => h.elim
 | _ :: _, _ :: _, [], _, g => g.elim
theorem list_txt (l : List Int) (hn : l ≠ []) (hr : rises l) (hl : l.length ≤ 60) (hs : small l) : rule_list.f (mkS (jn 44 (l.map Lib.itoa))) = some (l, true, ()) := by
 have hlen := itx_len l hl hs
 have hsg := jn_segs 44 (l.map Lib.itoa) (by simpa using hn) fun s h => by
  obtain ⟨n, _, e⟩ := List.mem_map.1 h
  rw [← e]
  exact itoa_not (by decide) (by unfold dig; decide)
 rcases list_spec (jn 44 (l.map Lib.itoa)) (by omega) with ⟨r, ⟨⟨q1, _⟩, ns, q3, _, q5⟩, e, _⟩ | ⟨hno, _⟩
 ·rw [hsg] at q3
  have := all2_uniq (R := isN) (fun _ _ _ => isN_uniq) q3 (all_isN' l hs)
  subst this
  rw [e, rises_uniq q1 hr q5]
 ·exact absurd ⟨⟨hr, hl⟩, l, by rw [hsg]; exact all_isN' l hs, hl, fun _ => Iff.rfl⟩ (hno l)
theorem isDy_dt (d : Dy) (h : -53 ≤ d.1 ∧ d.1 ≤ 53 ∧ 0 ≤ d.2.1 ∧ d.2.1 ≤ 6) : isDy (dt d) d := by
 obtain ⟨n, w, ⟨⟩⟩ := d
 dsimp only at h
 have hw2 : (wd.getD w.toNat []).length = 2 := (show ∀ s ∈ wd, s.length = 2 by decide) _ (getD_mem' [] (by rw [wd7]; omega))
 have hp : posF 0 wd (wd.getD w.toNat []) = w := by
  have : w = 0 ∨ w = 1 ∨ w = 2 ∨ w = 3 ∨ w = 4 ∨ w = 5 ∨ w = 6 := by omega
  rcases this with rfl | rfl | rfl | rfl | rfl | rfl | rfl <;> rfl
 obtain ⟨a, ha⟩ : ∃ a, a = (if n = 0 then [] else Lib.itoa n) := ⟨_, rfl⟩
 have e : dt (n, w, ()) = a ++ wd.getD w.toNat [] := by unfold dt; rw [ha]
 have hl : (a ++ wd.getD w.toNat []).length - 2 = a.length := by rw [List.length_append, hw2]; omega
 show isD (dt (n, w, ())) n w
 rw [e]
 unfold isD
 rw [hl, List.drop_left, List.take_left, hp]
 refine ⟨by rw [List.length_append]; omega, rfl, h.2.2.1, ?_⟩
 by_cases c : n = 0
 ·rw [if_pos c] at ha
  exact .inl ⟨ha, c⟩
 ·rw [if_neg c] at ha
  refine .inr ⟨?_, ⟨ha, by omega, by omega⟩, c⟩
  rw [ha]
  intro q
  by_cases hn : n < 0
  ·rw [itoa_neg hn] at q
   cases q
  ·rw [itoa_pos hn] at q
   exact D_ne _ q
theorem all_isDy : ∀ (l : List Dy), smallD l → All2 isDy (l.map dt) l
 | [], _ => trivial
 | n :: l, h => ⟨isDy_dt n (h n (by simp)), all_isDy l fun x hx => h x (List.mem_cons_of_mem _ hx)⟩
theorem wd_no (c : UInt8) (h : ∀ s ∈ wd, c ∉ s) (i : Nat) : c ∉ wd.getD i [] := by
 by_cases hi2 : i < wd.length
 ·exact h _ (getD_mem' [] hi2)
 ·rw [getD_out hi2]
  simp
theorem fw_no (c : UInt8) (h : ∀ s ∈ fw, c ∉ s) (i : Nat) : c ∉ fw.getD i [] := by
 by_cases hi2 : i < fw.length
 ·exact h _ (getD_mem' [] hi2)
 ·rw [getD_out hi2]
  simp
theorem dt_no (c : UInt8) (h1 : c ≠ 45) (h2 : ¬ dig c) (h : ∀ s ∈ wd, c ∉ s) (d : Dy) : c ∉ dt d := by
 unfold dt
 rw [List.mem_append]
 rintro (q | q)
 ·split at q
  ·simp at q
  ·exact itoa_not h1 h2 q
 ·exact wd_no c h _ q
theorem dayl_txt (l : List Dy) (hn : l ≠ []) (hr : risesD l) (hl : l.length ≤ 60) (hs : smallD l) : rule_dayList.f (mkS (jn 44 (l.map dt))) = some (l, true, ()) := by
 have hlen := dtx_len l hl hs
 have hsg := jn_segs 44 (l.map dt) (by simpa using hn) fun s h => by
  obtain ⟨n, _, e⟩ := List.mem_map.1 h
  rw [← e]
  exact dt_no 44 (by decide) (by unfold dig; decide) (by decide) n
 have hu : ∀ (a : List UInt8) (b c : Dy), isDy a b → isDy a c → b = c := fun a b c h g => by
  obtain ⟨e1, e2⟩ := isD_uniq h g
  obtain ⟨b1, b2, ⟨⟩⟩ := b
  obtain ⟨c1, c2, ⟨⟩⟩ := c
  dsimp only at e1 e2
  rw [e1, e2]
 rcases dayList_spec (jn 44 (l.map dt)) (by omega) with ⟨r, ⟨⟨q1, _⟩, ns, q3, _, q5⟩, e, _⟩ | ⟨hno, _⟩
 ·rw [hsg] at q3
  have := all2_uniq (R := isDy) hu q3 (all_isDy l hs)
  subst this
  rw [e, risesD_uniq q1 hr q5]
 ·exact absurd ⟨⟨hr, hl⟩, l, by rw [hsg]; exact all_isDy l hs, hl, fun _ => Iff.rfl⟩ (hno l)
theorem good_BYDAY (l : List Dy) (hn : l ≠ []) (hr : risesD l) (hl : l.length ≤ 60) (hs : smallD l) : Good ([66, 89, 68, 65, 89] ++ 61 :: jn 44 (l.map dt)) (.dy l) := by
 refine ⟨_, rfl, by show (61 : UInt8) ∉ [66, 89, 68, 65, 89]; decide, fun r => ?_⟩
 show rule_part.f r (mkS [66, 89, 68, 65, 89]) _ = _
 rw [eqp_BYDAY, dayl_txt l hn hr hl hs]
 rfl
theorem good_BYMONTH (l : List Int) (hn : l ≠ []) (hr : rises l) (hl : l.length ≤ 60) (hs : small l) : Good ([66, 89, 77, 79, 78, 84, 72] ++ 61 :: jn 44 (l.map Lib.itoa)) (.mo l) := by
 refine ⟨_, rfl, by show (61 : UInt8) ∉ [66, 89, 77, 79, 78, 84, 72]; decide, fun r => ?_⟩
 show rule_part.f r (mkS [66, 89, 77, 79, 78, 84, 72]) _ = _
 rw [eqp_BYMONTH, list_txt l hn hr hl hs]
 rfl
theorem good_BYWEEKNO (l : List Int) (hn : l ≠ []) (hr : rises l) (hl : l.length ≤ 60) (hs : small l) : Good ([66, 89, 87, 69, 69, 75, 78, 79] ++ 61 :: jn 44 (l.map Lib.itoa)) (.we l) := by
 refine ⟨_, rfl, by show (61 : UInt8) ∉ [66, 89, 87, 69, 69, 75, 78, 79]; decide, fun r => ?_⟩
 show rule_part.f r (mkS [66, 89, 87, 69, 69, 75, 78, 79]) _ = _
 rw [eqp_BYWEEKNO, list_txt l hn hr hl hs]
 rfl
theorem good_BYYEARDAY (l : List Int) (hn : l ≠ []) (hr : rises l) (hl : l.length ≤ 60) (hs : small l) : Good ([66, 89, 89, 69, 65, 82, 68, 65, 89] ++ 61 :: jn 44 (l.map Lib.itoa)) (.yd l) := by
 refine ⟨_, rfl, by show (61 : UInt8) ∉ [66, 89, 89, 69, 65, 82, 68, 65, 89]; decide, fun r => ?_⟩
 show rule_part.f r (mkS [66, 89, 89, 69, 65, 82, 68, 65, 89]) _ = _
 rw [eqp_BYYEARDAY, list_txt l hn hr hl hs]
 rfl
theorem good_BYMONTHDAY (l : List Int) (hn : l ≠ []) (hr : rises l) (hl : l.length ≤ 60) (hs : small l) : Good ([66, 89, 77, 79, 78, 84, 72, 68, 65, 89] ++ 61 :: jn 44 (l.map Lib.itoa)) (.md l) := by
 refine ⟨_, rfl, by show (61 : UInt8) ∉ [66, 89, 77, 79, 78, 84, 72, 68, 65, 89]; decide, fun r => ?_⟩
 show rule_part.f r (mkS [66, 89, 77, 79, 78, 84, 72, 68, 65, 89]) _ = _
 rw [eqp_BYMONTHDAY, list_txt l hn hr hl hs]
 rfl
theorem good_BYHOUR (l : List Int) (hn : l ≠ []) (hr : rises l) (hl : l.length ≤ 60) (hs : small l) : Good ([66, 89, 72, 79, 85, 82] ++ 61 :: jn 44 (l.map Lib.itoa)) (.ho l) := by
 refine ⟨_, rfl, by show (61 : UInt8) ∉ [66, 89, 72, 79, 85, 82]; decide, fun r => ?_⟩
 show rule_part.f r (mkS [66, 89, 72, 79, 85, 82]) _ = _
 rw [eqp_BYHOUR, list_txt l hn hr hl hs]
 rfl
theorem good_BYMINUTE (l : List Int) (hn : l ≠ []) (hr : rises l) (hl : l.length ≤ 60) (hs : small l) : Good ([66, 89, 77, 73, 78, 85, 84, 69] ++ 61 :: jn 44 (l.map Lib.itoa)) (.mi l) := by
 refine ⟨_, rfl, by show (61 : UInt8) ∉ [66, 89, 77, 73, 78, 85, 84, 69]; decide, fun r => ?_⟩
 show rule_part.f r (mkS [66, 89, 77, 73, 78, 85, 84, 69]) _ = _
 rw [eqp_BYMINUTE, list_txt l hn hr hl hs]
 rfl
theorem good_BYSECOND (l : List Int) (hn : l ≠ []) (hr : rises l) (hl : l.length ≤ 60) (hs : small l) : Good ([66, 89, 83, 69, 67, 79, 78, 68] ++ 61 :: jn 44 (l.map Lib.itoa)) (.se l) := by
 refine ⟨_, rfl, by show (61 : UInt8) ∉ [66, 89, 83, 69, 67, 79, 78, 68]; decide, fun r => ?_⟩
 show rule_part.f r (mkS [66, 89, 83, 69, 67, 79, 78, 68]) _ = _
 rw [eqp_BYSECOND, list_txt l hn hr hl hs]
 rfl
theorem good_BYSETPOS (l : List Int) (hn : l ≠ []) (hr : rises l) (hl : l.length ≤ 60) (hs : small l) : Good ([66, 89, 83, 69, 84, 80, 79, 83] ++ 61 :: jn 44 (l.map Lib.itoa)) (.po l) := by
 refine ⟨_, rfl, by show (61 : UInt8) ∉ [66, 89, 83, 69, 84, 80, 79, 83]; decide, fun r => ?_⟩
 show rule_part.f r (mkS [66, 89, 83, 69, 84, 80, 79, 83]) _ = _
 rw [eqp_BYSETPOS, list_txt l hn hr hl hs]
 rfl
section
variable (f iv ct un wk : Int) (en : Bool) (mo we yd md : List Int) (dy : List Dy) (ho mi se po : List Int)
theorem parts_good (hp : mayP f iv ct un wk en mo we yd md dy ho mi se po) : All2 Good (parts f iv ct un wk en mo we yd md dy ho mi se po) (ups f iv ct un wk en mo we yd md dy ho mi se po) := by
 obtain ⟨b1, b2, b3, bmo, bwe, byd, bmd, bdy, bho, bmi, bse, bpo⟩ := bounds f iv ct un wk en mo we yd md dy ho mi se po hp
 obtain ⟨u1, u2, u3⟩ := utx_spec un b3
 unfold parts ups rest
 refine ⟨good_FREQ f (by omega) (by omega), ?_⟩
 refine All2.append (opt_good _ _ _ _ fun hb => good_INTERVAL iv (by omega) (by omega)) ?_
 refine All2.append (opt_good _ _ _ _ fun hb => good_COUNT ct (by omega) (by omega)) ?_
 refine All2.append (opt_good _ _ _ _ fun hb => good_UNTIL un _ u3) ?_
 refine All2.append (opt_good _ _ _ _ fun hb => good_BYMONTH mo (by intro q; rw [q] at hb; exact absurd hb (by decide)) (wi_rises hp.2.1.1) bmo.1 bmo.2) ?_
 refine All2.append (opt_good _ _ _ _ fun hb => good_BYWEEKNO we (by intro q; rw [q] at hb; exact absurd hb (by decide)) (wi_rises hp.2.1.2.1) bwe.1 bwe.2) ?_
 refine All2.append (opt_good _ _ _ _ fun hb => good_BYYEARDAY yd (by intro q; rw [q] at hb; exact absurd hb (by decide)) (wi_rises hp.2.1.2.2.1) byd.1 byd.2) ?_
 refine All2.append (opt_good _ _ _ _ fun hb => good_BYMONTHDAY md (by intro q; rw [q] at hb; exact absurd hb (by decide)) (wi_rises hp.2.1.2.2.2.1) bmd.1 bmd.2) ?_
 refine All2.append (opt_good _ _ _ _ fun hb => good_BYDAY dy (by intro q; rw [q] at hb; exact absurd hb (by decide)) (dwi_rises hp.2.1.2.2.2.2.2.2.2.2.1) bdy.1 bdy.2) ?_
 refine All2.append (opt_good _ _ _ _ fun hb => good_BYHOUR ho (by intro q; rw [q] at hb; exact absurd hb (by decide)) (wi_rises hp.2.1.2.2.2.2.1) bho.1 bho.2) ?_
 refine All2.append (opt_good _ _ _ _ fun hb => good_BYMINUTE mi (by intro q; rw [q] at hb; exact absurd hb (by decide)) (wi_rises hp.2.1.2.2.2.2.2.1) bmi.1 bmi.2) ?_
 refine All2.append (opt_good _ _ _ _ fun hb => good_BYSECOND se (by intro q; rw [q] at hb; exact absurd hb (by decide)) (wi_rises hp.2.1.2.2.2.2.2.2.1) bse.1 bse.2) ?_
 refine All2.append (opt_good _ _ _ _ fun hb => good_BYSETPOS po (by intro q; rw [q] at hb; exact absurd hb (by decide)) (wi_rises hp.2.1.2.2.2.2.2.2.2.1) bpo.1 bpo.2) ?_
 exact opt_good _ _ _ _ fun hb => good_WKST wk (by omega) (by omega)
theorem ups_keys : (keys (ups f iv ct un wk en mo we yd md dy ho mi se po)).Nodup ∧ FREQ ∈ keys (ups f iv ct un wk en mo we yd md dy ho mi se po) := by
 constructor
 ·have h : (keys (ups f iv ct un wk en mo we yd md dy ho mi se po)).Sublist ([70, 82, 69, 81] :: ([[73, 78, 84, 69, 82, 86, 65, 76]] ++ ([[67, 79, 85, 78, 84]] ++ ([[85, 78, 84, 73, 76]] ++ ([[66, 89, 77, 79, 78, 84, 72]] ++ ([[66, 89, 87, 69, 69, 75, 78, 79]] ++ ([[66, 89, 89, 69, 65, 82, 68, 65, 89]] ++ ([[66, 89, 77, 79, 78, 84, 72, 68, 65, 89]] ++ ([[66, 89, 68, 65, 89]] ++ ([[66, 89, 72, 79, 85, 82]] ++ ([[66, 89, 77, 73, 78, 85, 84, 69]] ++ ([[66, 89, 83, 69, 67, 79, 78, 68]] ++ ([[66, 89, 83, 69, 84, 80, 79, 83]] ++ ([[87, 75, 83, 84]])))))))))))))) := by
   unfold ups
   refine List.Sublist.cons_cons _ ?_
   simp only [keys, List.map_append]
   refine List.Sublist.append (optU_sub _ _) ?_
   refine List.Sublist.append (optU_sub _ _) ?_
   refine List.Sublist.append (optU_sub _ _) ?_
   refine List.Sublist.append (optU_sub _ _) ?_
   refine List.Sublist.append (optU_sub _ _) ?_
   refine List.Sublist.append (optU_sub _ _) ?_
   refine List.Sublist.append (optU_sub _ _) ?_
   refine List.Sublist.append (optU_sub _ _) ?_
   refine List.Sublist.append (optU_sub _ _) ?_
   refine List.Sublist.append (optU_sub _ _) ?_
   refine List.Sublist.append (optU_sub _ _) ?_
   refine List.Sublist.append (optU_sub _ _) ?_
   exact optU_sub _ _
  exact List.Pairwise.sublist h (by decide)
 ·exact List.mem_cons_self ..
theorem ups_ap (hp : mayP f iv ct un wk en mo we yd md dy ho mi se po) : apAll (0, 1, 0, 0, 0, false, [], [], [], [], [], [], [], [], [], ()) (ups f iv ct un wk en mo we yd md dy ho mi se po) = (f, iv, ct, un, wk, en, mo, we, yd, md, dy, ho, mi, se, po, ()) := by
 have hun : en = false → un = 0 := fun h => hp.1.2.2 h
 unfold ups
 show apAll (f, 1, 0, 0, 0, false, [], [], [], [], [], [], [], [], [], ()) _ = _
 have a0 : apAll (f, 1, 0, 0, 0, false, [], [], [], [], [], [], [], [], [], ()) (optU (!decide (iv = 1)) (.iv iv)) = (f, iv, 0, 0, 0, false, [], [], [], [], [], [], [], [], [], ()) := by
   by_cases h : iv = 1
   ·subst h; rfl
   ·simp only [dn h, optU, Bool.not_false, cond_true]; rfl
 rw [apAll_app, a0]
 have a1 : apAll (f, iv, 0, 0, 0, false, [], [], [], [], [], [], [], [], [], ()) (optU (!decide (ct = 0)) (.ct ct)) = (f, iv, ct, 0, 0, false, [], [], [], [], [], [], [], [], [], ()) := by
   by_cases h : ct = 0
   ·subst h; rfl
   ·simp only [dn h, optU, Bool.not_false, cond_true]; rfl
 rw [apAll_app, a1]
 have a2 : apAll (f, iv, ct, 0, 0, false, [], [], [], [], [], [], [], [], [], ()) (optU (en) (.un un)) = (f, iv, ct, un, 0, en, [], [], [], [], [], [], [], [], [], ()) := by
   cases en with
   | false => rw [hun rfl]; rfl
   | true => rfl
 rw [apAll_app, a2]
 have a3 : apAll (f, iv, ct, un, 0, en, [], [], [], [], [], [], [], [], [], ()) (optU (decide ((mo.length : Int) > 0)) (.mo mo)) = (f, iv, ct, un, 0, en, mo, [], [], [], [], [], [], [], [], ()) := by
   cases mo with
   | nil => rfl
   | cons a l =>
    have h : (((a :: l).length : Nat) : Int) > 0 := by rw [List.length_cons]; omega
    simp only [dp h, optU, cond_true]; rfl
 rw [apAll_app, a3]
 have a4 : apAll (f, iv, ct, un, 0, en, mo, [], [], [], [], [], [], [], [], ()) (optU (decide ((we.length : Int) > 0)) (.we we)) = (f, iv, ct, un, 0, en, mo, we, [], [], [], [], [], [], [], ()) := by
   cases we with
   | nil => rfl
   | cons a l =>
    have h : (((a :: l).length : Nat) : Int) > 0 := by rw [List.length_cons]; omega
    simp only [dp h, optU, cond_true]; rfl
 rw [apAll_app, a4]
 have a5 : apAll (f, iv, ct, un, 0, en, mo, we, [], [], [], [], [], [], [], ()) (optU (decide ((yd.length : Int) > 0)) (.yd yd)) = (f, iv, ct, un, 0, en, mo, we, yd, [], [], [], [], [], [], ()) := by
   cases yd with
   | nil => rfl
   | cons a l =>
    have h : (((a :: l).length : Nat) : Int) > 0 := by rw [List.length_cons]; omega
    simp only [dp h, optU, cond_true]; rfl
 rw [apAll_app, a5]
 have a6 : apAll (f, iv, ct, un, 0, en, mo, we, yd, [], [], [], [], [], [], ()) (optU (decide ((md.length : Int) > 0)) (.md md)) = (f, iv, ct, un, 0, en, mo, we, yd, md, [], [], [], [], [], ()) := by
   cases md with
   | nil => rfl
   | cons a l =>
    have h : (((a :: l).length : Nat) : Int) > 0 := by rw [List.length_cons]; omega
    simp only [dp h, optU, cond_true]; rfl
 rw [apAll_app, a6]
 have a7 : apAll (f, iv, ct, un, 0, en, mo, we, yd, md, [], [], [], [], [], ()) (optU (decide ((dy.length : Int) > 0)) (.dy dy)) = (f, iv, ct, un, 0, en, mo, we, yd, md, dy, [], [], [], [], ()) := by
   cases dy with
   | nil => rfl
   | cons a l =>
    have h : (((a :: l).length : Nat) : Int) > 0 := by rw [List.length_cons]; omega
    simp only [dp h, optU, cond_true]; rfl
 rw [apAll_app, a7]
 have a8 : apAll (f, iv, ct, un, 0, en, mo, we, yd, md, dy, [], [], [], [], ()) (optU (decide ((ho.length : Int) > 0)) (.ho ho)) = (f, iv, ct, un, 0, en, mo, we, yd, md, dy, ho, [], [], [], ()) := by
   cases ho with
   | nil => rfl
   | cons a l =>
    have h : (((a :: l).length : Nat) : Int) > 0 := by rw [List.length_cons]; omega
    simp only [dp h, optU, cond_true]; rfl
 rw [apAll_app, a8]
 have a9 : apAll (f, iv, ct, un, 0, en, mo, we, yd, md, dy, ho, [], [], [], ()) (optU (decide ((mi.length : Int) > 0)) (.mi mi)) = (f, iv, ct, un, 0, en, mo, we, yd, md, dy, ho, mi, [], [], ()) := by
   cases mi with
   | nil => rfl
   | cons a l =>
    have h : (((a :: l).length : Nat) : Int) > 0 := by rw [List.length_cons]; omega
    simp only [dp h, optU, cond_true]; rfl
 rw [apAll_app, a9]
 have a10 : apAll (f, iv, ct, un, 0, en, mo, we, yd, md, dy, ho, mi, [], [], ()) (optU (decide ((se.length : Int) > 0)) (.se se)) = (f, iv, ct, un, 0, en, mo, we, yd, md, dy, ho, mi, se, [], ()) := by
   cases se with
   | nil => rfl
   | cons a l =>
    have h : (((a :: l).length : Nat) : Int) > 0 := by rw [List.length_cons]; omega
    simp only [dp h, optU, cond_true]; rfl
 rw [apAll_app, a10]
 have a11 : apAll (f, iv, ct, un, 0, en, mo, we, yd, md, dy, ho, mi, se, [], ()) (optU (decide ((po.length : Int) > 0)) (.po po)) = (f, iv, ct, un, 0, en, mo, we, yd, md, dy, ho, mi, se, po, ()) := by
   cases po with
   | nil => rfl
   | cons a l =>
    have h : (((a :: l).length : Nat) : Int) > 0 := by rw [List.length_cons]; omega
    simp only [dp h, optU, cond_true]; rfl
 rw [apAll_app, a11]
 have a12 : apAll (f, iv, ct, un, 0, en, mo, we, yd, md, dy, ho, mi, se, po, ()) (optU (!decide (wk = 0)) (.wk wk)) = (f, iv, ct, un, wk, en, mo, we, yd, md, dy, ho, mi, se, po, ()) := by
   by_cases h : wk = 0
   ·subst h; rfl
   ·simp only [dn h, optU, Bool.not_false, cond_true]; rfl
 exact a12
end
theorem opt_no {b : Bool} {name v : List UInt8} (hn : (59 : UInt8) ∉ name) (hv : b = true → (59 : UInt8) ∉ v) : ∀ s ∈ opt b name v, (59 : UInt8) ∉ s := by
 cases b with
 | false => intro s h; cases h
 | true =>
  intro s h
  have h : s = name ++ 61 :: v := List.mem_singleton.1 h
  rw [h, List.mem_append, List.mem_cons]
  rintro (q | q | q)
  ·exact hn q
  ·exact absurd q (by decide)
  ·exact hv rfl q
theorem jn_no {c d : UInt8} (hcd : c ≠ d) : ∀ l : List (List UInt8), (∀ s ∈ l, c ∉ s) → c ∉ jn d l
 | [], _ => by simp [jn]
 | [a], h => h a (by simp)
 | a :: b :: l, h => by
  show c ∉ a ++ d :: jn d (b :: l)
  rw [List.mem_append, List.mem_cons]
  rintro (q | q | q)
  ·exact h a (by simp) q
  ·exact hcd q
  ·exact jn_no hcd (b :: l) (fun s hs => h s (List.mem_cons_of_mem _ hs)) q
theorem itx_no (l : List Int) : (59 : UInt8) ∉ jn 44 (l.map Lib.itoa) := jn_no (by decide) _ fun s h => by
 obtain ⟨n, _, e⟩ := List.mem_map.1 h
 rw [← e]
 exact itoa_not (by decide) (by unfold dig; decide)
theorem dtx_no (l : List Dy) : (59 : UInt8) ∉ jn 44 (l.map dt) := jn_no (by decide) _ fun s h => by
 obtain ⟨n, _, e⟩ := List.mem_map.1 h
 rw [← e]
 exact dt_no 59 (by decide) (by unfold dig; decide) (by decide) n
theorem tot_mem : ∀ (l : List (List UInt8)), ∀ s ∈ l, s.length ≤ tot l
 | a :: l, s, h => by
  rcases List.mem_cons.1 h with e | h
  ·rw [e]; simp [tot]
  ·have := tot_mem l s h
   simp only [tot]
   omega
section
variable (f iv ct un wk : Int) (en : Bool) (mo we yd md : List Int) (dy : List Dy) (ho mi se po : List Int)
theorem parts_no (hp : mayP f iv ct un wk en mo we yd md dy ho mi se po) : ∀ s ∈ parts f iv ct un wk en mo we yd md dy ho mi se po, (59 : UInt8) ∉ s := by
 obtain ⟨b1, b2, b3, _⟩ := bounds f iv ct un wk en mo we yd md dy ho mi se po hp
 have hu : (59 : UInt8) ∉ utx un := fun q => by
  rcases (utx_all un b3).2.1 _ q with e | e
  ·exact absurd e (by decide)
  ·exact absurd e (by unfold dig; decide)
 have hi1 : (59 : UInt8) ∉ Lib.itoa iv := itoa_not (by decide) (by unfold dig; decide)
 have hi2 : (59 : UInt8) ∉ Lib.itoa ct := itoa_not (by decide) (by unfold dig; decide)
 have hw := wd_no 59 (by decide) wk.toNat
 have hf := fw_no 59 (by decide) (f - 1).toNat
 intro s hs
 unfold parts rest at hs
 rcases List.mem_cons.1 hs with e | hs
 ·rw [e]
  intro q
  rcases List.mem_append.1 q with q | q
  ·exact absurd q (by decide)
  rcases List.mem_cons.1 q with q | q
  ·exact absurd q (by decide)
  ·exact hf q
 ·rcases List.mem_append.1 hs with hs | hs
  ·exact opt_no (by decide) (fun _ => hi1) s hs
  rcases List.mem_append.1 hs with hs | hs
  ·exact opt_no (by decide) (fun _ => hi2) s hs
  rcases List.mem_append.1 hs with hs | hs
  ·exact opt_no (by decide) (fun _ => hu) s hs
  rcases List.mem_append.1 hs with hs | hs
  ·exact opt_no (by decide) (fun _ => itx_no _) s hs
  rcases List.mem_append.1 hs with hs | hs
  ·exact opt_no (by decide) (fun _ => itx_no _) s hs
  rcases List.mem_append.1 hs with hs | hs
  ·exact opt_no (by decide) (fun _ => itx_no _) s hs
  rcases List.mem_append.1 hs with hs | hs
  ·exact opt_no (by decide) (fun _ => itx_no _) s hs
  rcases List.mem_append.1 hs with hs | hs
  ·exact opt_no (by decide) (fun _ => dtx_no _) s hs
  rcases List.mem_append.1 hs with hs | hs
  ·exact opt_no (by decide) (fun _ => itx_no _) s hs
  rcases List.mem_append.1 hs with hs | hs
  ·exact opt_no (by decide) (fun _ => itx_no _) s hs
  rcases List.mem_append.1 hs with hs | hs
  ·exact opt_no (by decide) (fun _ => itx_no _) s hs
  rcases List.mem_append.1 hs with hs | hs
  ·exact opt_no (by decide) (fun _ => itx_no _) s hs
  ·exact opt_no (by decide) (fun _ => hw) s hs
end
theorem may_true {r : Rl} (hs : short r.2.2.2.2.2.2.1 r.2.2.2.2.2.2.2.1 r.2.2.2.2.2.2.2.2.1 r.2.2.2.2.2.2.2.2.2.1 r.2.2.2.2.2.2.2.2.2.2.1 r.2.2.2.2.2.2.2.2.2.2.2.1 r.2.2.2.2.2.2.2.2.2.2.2.2.1 r.2.2.2.2.2.2.2.2.2.2.2.2.2.1 r.2.2.2.2.2.2.2.2.2.2.2.2.2.2.1) (hM : rule_May.f r = some (true, ())) : mayP r.1 r.2.1 r.2.2.1 r.2.2.2.1 r.2.2.2.2.1 r.2.2.2.2.2.1 r.2.2.2.2.2.2.1 r.2.2.2.2.2.2.2.1 r.2.2.2.2.2.2.2.2.1 r.2.2.2.2.2.2.2.2.2.1 r.2.2.2.2.2.2.2.2.2.2.1 r.2.2.2.2.2.2.2.2.2.2.2.1 r.2.2.2.2.2.2.2.2.2.2.2.2.1 r.2.2.2.2.2.2.2.2.2.2.2.2.2.1 r.2.2.2.2.2.2.2.2.2.2.2.2.2.2.1 := by
 have g := may_gate r.1 r.2.1 r.2.2.1 r.2.2.2.1 r.2.2.2.2.1 r.2.2.2.2.2.1 r.2.2.2.2.2.2.1 r.2.2.2.2.2.2.2.1 r.2.2.2.2.2.2.2.2.1 r.2.2.2.2.2.2.2.2.2.1 r.2.2.2.2.2.2.2.2.2.2.1 r.2.2.2.2.2.2.2.2.2.2.2.1 r.2.2.2.2.2.2.2.2.2.2.2.2.1 r.2.2.2.2.2.2.2.2.2.2.2.2.2.1 r.2.2.2.2.2.2.2.2.2.2.2.2.2.2.1 hs
 refine Classical.byContradiction fun q => ?_
 have h1 : rule_May.f r = some (false, ()) := g.2 q
 rw [hM] at h1
 cases h1
noncomputable def pts (r : Rl) : List (List UInt8) := parts r.1 r.2.1 r.2.2.1 r.2.2.2.1 r.2.2.2.2.1 r.2.2.2.2.2.1 r.2.2.2.2.2.2.1 r.2.2.2.2.2.2.2.1 r.2.2.2.2.2.2.2.2.1 r.2.2.2.2.2.2.2.2.2.1 r.2.2.2.2.2.2.2.2.2.2.1 r.2.2.2.2.2.2.2.2.2.2.2.1 r.2.2.2.2.2.2.2.2.2.2.2.2.1 r.2.2.2.2.2.2.2.2.2.2.2.2.2.1 r.2.2.2.2.2.2.2.2.2.2.2.2.2.2.1
def shortR (r : Rl) : Prop := short r.2.2.2.2.2.2.1 r.2.2.2.2.2.2.2.1 r.2.2.2.2.2.2.2.2.1 r.2.2.2.2.2.2.2.2.2.1 r.2.2.2.2.2.2.2.2.2.2.1 r.2.2.2.2.2.2.2.2.2.2.2.1 r.2.2.2.2.2.2.2.2.2.2.2.2.1 r.2.2.2.2.2.2.2.2.2.2.2.2.2.1 r.2.2.2.2.2.2.2.2.2.2.2.2.2.2.1
theorem print_ok (r : Rl) (hs : shortR r) (hM : rule_May.f r = some (true, ())) :
  rule_Print.f r = some (mkS (jn 59 (pts r)), 0, ()) ∧ (jn 59 (pts r)).length ≤ 4096 ∧ pts r ≠ [] ∧ (∀ s ∈ pts r, (59 : UInt8) ∉ s) ∧ sh60 r ∧
   ∃ us, All2 Good (pts r) us ∧ (keys us).Nodup ∧ FREQ ∈ keys us ∧ apAll (0, 1, 0, 0, 0, false, [], [], [], [], [], [], [], [], [], ()) us = r := by
 have hp := may_true hs hM
 obtain ⟨f, iv, ct, un, wk, en, mo, we, yd, md, dy, ho, mi, se, po, ⟨⟩⟩ := r
 dsimp only at hp
 obtain ⟨h1, h2⟩ := print_spec f iv ct un wk en mo we yd md dy ho mi se po hM hp
 have hk := ups_keys f iv ct un wk en mo we yd md dy ho mi se po
 obtain ⟨_, _, _, b4, b5, b6, b7, b8, b9, b10, b11, b12⟩ := bounds f iv ct un wk en mo we yd md dy ho mi se po hp
 exact ⟨h1, h2, by unfold pts parts; simp, parts_no f iv ct un wk en mo we yd md dy ho mi se po hp, ⟨b4.1, b5.1, b6.1, b7.1, b8.1, b9.1, b10.1, b11.1, b12.1⟩,
  ups f iv ct un wk en mo we yd md dy ho mi se po, parts_good f iv ct un wk en mo we yd md dy ho mi se po hp, hk.1, hk.2, ups_ap f iv ct un wk en mo we yd md dy ho mi se po hp⟩
theorem parse_back (r : Rl) (hs : shortR r) (hM : rule_May.f r = some (true, ())) : rule_Parse.f (mkS (jn 59 (pts r))) = some (r, 0, 0, ()) := by
 obtain ⟨_, h2, h3, h4, _, us, h5, h6, h7, h8⟩ := print_ok r hs hM
 have hl := jn_len 59 (pts r) h3
 have hp : 0 < (pts r).length := List.length_pos_iff.2 h3
 rw [parse_PA _ h2, jn_segs 59 _ h3 h4]
 have := (turn_loop (pts r) (by omega) (fun s hs => by have := tot_mem _ s hs; omega) _ 0 (0, 1, 0, 0, 0, false, [], [], [], [], [], [], [], [], [], ()) [] rfl (Nat.zero_le _) (Nat.le_refl _)).1 us (by rw [List.drop_zero]; exact h5) (fun u _ => by simp) h6
 rw [this, h8]
 unfold fin
 rw [if_pos (by rw [List.nil_append]; exact h7), hM]
 rfl
theorem print_no (r : Rl) (hM : rule_May.f r = some (false, ())) : rule_Print.f r = some (mkS [], 1, ()) := by
 have hM : rule_May.f (r.1, r.2.1, r.2.2.1, r.2.2.2.1, r.2.2.2.2.1, r.2.2.2.2.2.1, r.2.2.2.2.2.2.1, r.2.2.2.2.2.2.2.1, r.2.2.2.2.2.2.2.2.1, r.2.2.2.2.2.2.2.2.2.1, r.2.2.2.2.2.2.2.2.2.2.1, r.2.2.2.2.2.2.2.2.2.2.2.1, r.2.2.2.2.2.2.2.2.2.2.2.2.1, r.2.2.2.2.2.2.2.2.2.2.2.2.2.1, r.2.2.2.2.2.2.2.2.2.2.2.2.2.2.1, ()) = some (false, ()) := hM
 rw [rule_Print.f_eq, hM]
 rfl
end Go.GV.YtkkfgajlnpcpcaaGreatDoor
namespace Go.GV.YtkkfgajlnpcpcaaGreatDoor
open Go.Proofs
theorem eqI2 (a b : List Int) (ha : a.length ≤ 1000000) : slices_Equal_int_int.f a b = some (decide (a = b), ()) := by
 rw [slices_Equal_int_int.f_eq]
 by_cases hl : a.length = b.length
 ·have key : ∀ (k i : Nat), a.length - i = k → i ≤ a.length → slices_Equal_int_int.l1 a b a.length i = some (decide (a.drop i = b.drop i), ()) := by
   intro k
   induction k with
   | zero =>
    intro i hk hia
    have e1 : a.drop i = [] := List.drop_eq_nil_of_le (by omega)
    have e2 : b.drop i = [] := List.drop_eq_nil_of_le (by omega)
    rw [slices_Equal_int_int.l1_eq, e1, e2]
    simp (disch := omega) only [ss, cond_true, cond_false, Option.bind_some]
   | succ k ih =>
    intro i hk hia
    have h1 : i < a.length := by omega
    have h2 : i < b.length := by omega
    have := ih (i + 1) (by omega) (by omega)
    rw [slices_Equal_int_int.l1_eq, drop_getD' 0 h1, drop_getD' 0 h2]
    by_cases c : a.getD i 0 = b.getD i 0
    ·have e : decide (a.getD i 0 :: a.drop (i + 1) = b.getD i 0 :: b.drop (i + 1)) = decide (a.drop (i + 1) = b.drop (i + 1)) := decide_eq_decide.2 ⟨fun h => (List.cons.inj h).2, fun h => by rw [c, h]⟩
     rw [e]
     simp (disch := omega) only [ss, cond_true, cond_false, Option.bind_some]
     exact this
    ·have e : decide (a.getD i 0 :: a.drop (i + 1) = b.getD i 0 :: b.drop (i + 1)) = false := dn fun h => c (List.cons.inj h).1
     rw [e]
     simp (disch := omega) only [ss, cond_true, cond_false, Option.bind_some]
  have := key _ 0 rfl (Nat.zero_le _)
  rw [Int.natCast_zero, List.drop_zero, List.drop_zero] at this
  simp (disch := omega) only [ss, cond_true, cond_false, Option.bind_some, this]
 ·rw [dn (show ¬ a = b from fun h => hl (by rw [h]))]
  simp (disch := omega) only [ss, cond_true, cond_false, Option.bind_some]
theorem eqD2 (a b : List Dy) (ha : a.length ≤ 1000000) : slices_Equal_api_Day_api_Day.f a b = some (decide (a = b), ()) := by
 rw [slices_Equal_api_Day_api_Day.f_eq]
 by_cases hl : a.length = b.length
 ·have key : ∀ (k i : Nat), a.length - i = k → i ≤ a.length → slices_Equal_api_Day_api_Day.l1 a b a.length i = some (decide (a.drop i = b.drop i), ()) := by
   intro k
   induction k with
   | zero =>
    intro i hk hia
    have e1 : a.drop i = [] := List.drop_eq_nil_of_le (by omega)
    have e2 : b.drop i = [] := List.drop_eq_nil_of_le (by omega)
    rw [slices_Equal_api_Day_api_Day.l1_eq, e1, e2]
    simp (disch := omega) only [ss, cond_true, cond_false, Option.bind_some]
   | succ k ih =>
    intro i hk hia
    have h1 : i < a.length := by omega
    have h2 : i < b.length := by omega
    have := ih (i + 1) (by omega) (by omega)
    rw [slices_Equal_api_Day_api_Day.l1_eq, drop_getD' ((0, 0, ()) : Dy) h1, drop_getD' ((0, 0, ()) : Dy) h2]
    generalize hx : a.getD i ((0, 0, ()) : Dy) = x
    generalize hy : b.getD i ((0, 0, ()) : Dy) = y
    have hx' : a.getD i ((0, 0, ()) : Int × Int × Unit) = x := hx
    have hy' : b.getD i ((0, 0, ()) : Int × Int × Unit) = y := hy
    obtain ⟨x1, x2, ⟨⟩⟩ := x
    obtain ⟨y1, y2, ⟨⟩⟩ := y
    by_cases c : x1 = y1 ∧ x2 = y2
    ·obtain ⟨rfl, rfl⟩ := c
     have e : decide ((x1, x2, ()) :: a.drop (i + 1) = (x1, x2, ()) :: b.drop (i + 1)) = decide (a.drop (i + 1) = b.drop (i + 1)) := decide_eq_decide.2 ⟨fun h => (List.cons.inj h).2, fun h => by rw [h]⟩
     rw [e]
     simp (disch := omega) only [ss, cond_true, cond_false, Option.bind_some, hx', hy']
     exact this
    ·have e : decide ((x1, x2, ()) :: a.drop (i + 1) = (y1, y2, ()) :: b.drop (i + 1)) = false := dn fun h => c (by have := (List.cons.inj h).1; cases this; exact ⟨rfl, rfl⟩)
     rw [e]
     have e2 : (decide (x1 = y1) && decide (x2 = y2)) = false := by
      by_cases c1 : x1 = y1
      ·rw [dn (show ¬ x2 = y2 from fun h => c ⟨c1, h⟩), Bool.and_false]
      ·rw [dn c1, Bool.false_and]
     simp (disch := omega) only [ss, cond_true, cond_false, Option.bind_some, hx', hy', e2]
  have := key _ 0 rfl (Nat.zero_le _)
  rw [Int.natCast_zero, List.drop_zero, List.drop_zero] at this
  simp (disch := omega) only [ss, cond_true, cond_false, Option.bind_some, this]
 ·rw [dn (show ¬ a = b from fun h => hl (by rw [h]))]
  simp (disch := omega) only [ss, cond_true, cond_false, Option.bind_some]
theorem same_tells (r q : Rl) (hr : shortR r) : Tells (rule_Same.f r q) (r = q) := by
 unfold shortR short at hr
 obtain ⟨f, iv, ct, un, wk, en, mo, we, yd, md, dy, ho, mi, se, po, ⟨⟩⟩ := r
 obtain ⟨f', iv', ct', un', wk', en', mo', we', yd', md', dy', ho', mi', se', po', ⟨⟩⟩ := q
 dsimp only at hr
 obtain ⟨h1, h2, h3, h4, h5, h6, h7, h8, h9⟩ := hr
 have no : ∀ {p : Prop}, ¬ p → Tells (some (false, ())) p := fun h => ⟨false, rfl, by simp [h]⟩
 rw [rule_Same.f_eq]
 by_cases c : f = f'
 ·by_cases c1 : iv = iv'
  ·by_cases c2 : ct = ct'
   ·by_cases c3 : un = un'
    ·by_cases c4 : wk = wk'
     ·by_cases c5 : en = en'
      ·subst c c1 c2 c3 c4 c5
       simp (disch := omega) only [ss, cond_true, cond_false, Option.bind_some, beq_self_eq_true]
       rw [rule_Same.l1_eq, cond_false, eqI2 mo mo' (by omega), eqI2 we we' (by omega), eqI2 yd yd' (by omega), eqI2 md md' (by omega), eqD2 dy dy' (by omega), eqI2 ho ho' (by omega), eqI2 mi mi' (by omega), eqI2 se se' (by omega), eqI2 po po' (by omega)]
       simp only [Option.bind_some]
       by_cases d1 : mo = mo'
       ·by_cases d2 : we = we'
        ·by_cases d3 : yd = yd'
         ·by_cases d4 : md = md'
          ·by_cases d5 : dy = dy'
           ·by_cases d6 : ho = ho'
            ·by_cases d7 : mi = mi'
             ·by_cases d8 : se = se'
              ·subst d1 d2 d3 d4 d5 d6 d7 d8
               simp only [decide_true, cond_true]
               refine ⟨_, rfl, ?_⟩
               rw [decide_eq_true_iff]
               exact ⟨fun h => by rw [h], fun h => by cases h; rfl⟩
              ·simp only [dp d1, dp d2, dp d3, dp d4, dp d5, dp d6, dp d7, dn d8, cond_true, cond_false]
               exact no fun h => d8 (by cases h; rfl)
             ·simp only [dp d1, dp d2, dp d3, dp d4, dp d5, dp d6, dn d7, cond_true, cond_false]
              exact no fun h => d7 (by cases h; rfl)
            ·simp only [dp d1, dp d2, dp d3, dp d4, dp d5, dn d6, cond_true, cond_false]
             exact no fun h => d6 (by cases h; rfl)
           ·simp only [dp d1, dp d2, dp d3, dp d4, dn d5, cond_true, cond_false]
            exact no fun h => d5 (by cases h; rfl)
          ·simp only [dp d1, dp d2, dp d3, dn d4, cond_true, cond_false]
           exact no fun h => d4 (by cases h; rfl)
         ·simp only [dp d1, dp d2, dn d3, cond_true, cond_false]
          exact no fun h => d3 (by cases h; rfl)
        ·simp only [dp d1, dn d2, cond_true, cond_false]
         exact no fun h => d2 (by cases h; rfl)
       ·simp only [dn d1, cond_false]
        exact no fun h => d1 (by cases h; rfl)
      ·have e : (en == en') = false := by cases en <;> cases en' <;> first | rfl | exact absurd rfl c5
       simp (disch := omega) only [ss, cond_true, cond_false, Option.bind_some, e, rule_Same.l1_eq]
       exact no fun h => c5 (by cases h; rfl)
     ·simp (disch := omega) only [ss, cond_true, cond_false, Option.bind_some, rule_Same.l1_eq]
      exact no fun h => c4 (by cases h; rfl)
    ·simp (disch := omega) only [ss, cond_true, cond_false, Option.bind_some, rule_Same.l1_eq]
     exact no fun h => c3 (by cases h; rfl)
   ·simp (disch := omega) only [ss, cond_true, cond_false, Option.bind_some, rule_Same.l1_eq]
    exact no fun h => c2 (by cases h; rfl)
  ·simp (disch := omega) only [ss, cond_true, cond_false, Option.bind_some, rule_Same.l1_eq]
   exact no fun h => c1 (by cases h; rfl)
 ·simp (disch := omega) only [ss, cond_true, cond_false, Option.bind_some, rule_Same.l1_eq]
  exact no fun h => c (by cases h; rfl)
theorem few_step {p : Prop} [Decidable p] {X : Option (Bool × Unit)} {Q : Prop} (h : p → ∃ b, X = some (b, ()) ∧ (b = true → Q)) : ∃ b, (bif decide p then X else some (false, ())) = some (b, ()) ∧ (b = true → Q) := by
 by_cases c : p
 ·rw [dp c]
  exact h c
 ·rw [dn c]
  exact ⟨false, rfl, fun q => by cases q⟩
theorem few_some (r : Rl) : ∃ b, vokref_FewRule.f r = some (b, ()) ∧ (b = true → shortR r) := by
 rw [vokref_FewRule.f_eq]
 refine few_step fun h1 => few_step fun h2 => few_step fun h3 => few_step fun h4 => few_step fun h5 => few_step fun h6 => few_step fun h7 => few_step fun h8 => ⟨_, rfl, fun h9 => ?_⟩
 rw [decide_eq_true_iff] at h9
 unfold shortR short
 omega
theorem short60 {r : Rl} (h : sh60 r) : shortR r := short_of h
theorem parse_shape (s : List UInt8) (hs : s.length ≤ 5000) :
  (∃ R : Rl, rule_Parse.f (mkS s) = some (R, 0, 0, ()) ∧ sh60 R ∧ rule_May.f R = some (true, ())) ∨ (∃ (n : Nat) (e : Int), rule_Parse.f (mkS s) = some (zR, (n : Int), e, ()) ∧ e ≠ 0) := by
 obtain ⟨R, n, e, h1, _, hR⟩ := parse_same s (by omega)
 by_cases c : s.length ≤ 4096
 ·have p1 := parse_PA s c
  have hsl := segs_len 59 s
  obtain ⟨a1, a2⟩ := turn_loop (segs 59 s) (by omega) (fun t ht => by have := hsl.2 t ht; omega) _ 0 (0, 1, 0, 0, 0, false, [], [], [], [], [], [], [], [], [], ()) [] rfl (Nat.zero_le _) (Nat.le_refl _)
  by_cases g : ∃ us, All2 Good ((segs 59 s).drop 0) us ∧ (∀ u ∈ us, u.key ∉ ([] : List (List UInt8))) ∧ (keys us).Nodup
  ·obtain ⟨us, g1, g2, g3⟩ := g
   have x1 := a1 us g1 g2 g3
   rw [p1, x1] at h1
   unfold fin at x1 h1
   by_cases hF : FREQ ∈ [] ++ keys us
   ·rw [if_pos hF] at x1 h1
    cases hM : rule_May.f (apAll (0, 1, 0, 0, 0, false, [], [], [], [], [], [], [], [], [], ()) us) with
    | none => rw [hM] at h1; cases h1
    | some b =>
     obtain ⟨b, ⟨⟩⟩ := b
     rw [hM] at x1 h1
     cases b with
     | true =>
      have h1 : some (apAll (0, 1, 0, 0, 0, false, [], [], [], [], [], [], [], [], [], ()) us, (0 : Int), (0 : Int), ()) = some (R, n, e, ()) := h1
      have e1 : apAll (0, 1, 0, 0, 0, false, [], [], [], [], [], [], [], [], [], ()) us = R := (Prod.mk.inj (Option.some.inj h1)).1
      exact .inl ⟨_, p1.trans x1, e1 ▸ hR, hM⟩
     | false => exact .inr ⟨0, 1, p1.trans x1, by decide⟩
   ·rw [if_neg hF] at x1
    exact .inr ⟨0, 7, p1.trans x1, by decide⟩
  ·obtain ⟨n1, x1⟩ := a2 g
   exact .inr ⟨n1, 4, p1.trans x1, by decide⟩
 ·refine .inr ⟨0, 3, ?_, by decide⟩
  rw [rule_Parse.f_eq]
  simp (disch := omega) only [ss, cond_true, cond_false, Option.bind_some, szS]
  rfl
theorem same_refl (r : Rl) (h : sh60 r) : rule_Same.f r r = some (true, ()) := same_self r h
end Go.GV.YtkkfgajlnpcpcaaGreatDoor
namespace Go.GV.YtkkfgajlnpcpcaaGreatDoor
open Go.Proofs
theorem copy_ints (l : List Int) (h : l.length ≤ 1000000) : vokref_CopyInts.f l = some (l, ()) := by
 have hlim : limit = 17179869184 := rfl
 rw [vokref_CopyInts.f_eq]
 simp (disch := omega) only [ss, cond_true, cond_false, Option.bind_some, List.length_nil, hlim, List.nil_append]
theorem copy_rule (r : Rl) (h : shortR r) : vokref_CopyRule.f r = some (r, ()) := by
 have hlim : limit = 17179869184 := rfl
 unfold shortR short at h
 obtain ⟨h1, h2, h3, h4, h5, h6, h7, h8, h9⟩ := h
 rw [vokref_CopyRule.f_eq, copy_ints _ (by omega), copy_ints _ (by omega), copy_ints _ (by omega), copy_ints _ (by omega), copy_ints _ (by omega), copy_ints _ (by omega), copy_ints _ (by omega), copy_ints _ (by omega)]
 simp (disch := omega) only [ss, cond_true, cond_false, Option.bind_some, List.length_nil, hlim, List.nil_append]
theorem bif_true {b : Bool} {X : Option (Bool × Unit)} (h : (bif b then some (false, ()) else X) = some (true, ())) : X = some (true, ()) := by
 cases b with
 | true => cases h
 | false => exact h
section
variable (f iv ct un wk : Int) (en : Bool) (mo we yd md : List Int) (dy : List Dy) (ho mi se po : List Int)
theorem l7_of_may (hs : short mo we yd md dy ho mi se po) (hM : rule_May.f (f, iv, ct, un, wk, en, mo, we, yd, md, dy, ho, mi, se, po, ()) = some (true, ())) : rule_May.l7 f iv ct un wk en mo we yd md dy ho mi se po = some (true, ()) := by
 have g := may_gate f iv ct un wk en mo we yd md dy ho mi se po hs
 have hp : mayP f iv ct un wk en mo we yd md dy ho mi se po := Classical.byContradiction fun q => by
  have := g.2 q
  rw [hM] at this
  cases this
 have h5 := g.1 hp
 rw [hM, rule_May.l5_eq] at h5
 by_cases c : (po.length : Int) > 0
 ·rw [dp c, cond_true, rule_May.l6_eq] at h5
  exact bif_true h5.symm
 ·rw [dn c, cond_false, rule_May.l6_eq] at h5
  exact h5.symm
theorem less_may (hs : short mo we yd md dy ho mi se po) (hM : rule_May.f (f, iv, ct, un, wk, en, mo, we, yd, md, dy, ho, mi, se, po, ()) = some (true, ())) (n : Int) (h1 : 1 ≤ n) (h2 : n ≤ 1000) :
  rule_May.f (f, n, 0, 0, wk, false, mo, we, yd, md, dy, ho, mi, se, [], ()) = some (true, ()) := by
 have h7 := l7_of_may f iv ct un wk en mo we yd md dy ho mi se po hs hM
 have hp := may_true (r := (f, iv, ct, un, wk, en, mo, we, yd, md, dy, ho, mi, se, po, ())) hs hM
 dsimp only at hp
 have hs' : short mo we yd md dy ho mi se [] := ⟨hs.1, hs.2.1, hs.2.2.1, hs.2.2.2.1, hs.2.2.2.2.1, hs.2.2.2.2.2.1, hs.2.2.2.2.2.2.1, hs.2.2.2.2.2.2.2.1, Nat.zero_le _⟩
 have g := may_gate f n 0 0 wk false mo we yd md dy ho mi se [] hs'
 obtain ⟨⟨q1, _, _⟩, ⟨l1, l2, l3, l4, l5, l6, l7, _, l9⟩, q4, q5, q6⟩ := hp
 have hq : mayP f n 0 0 wk false mo we yd md dy ho mi se [] :=
  ⟨⟨⟨q1.1, q1.2.1, h1, h2, by omega, by omega, q1.2.2.2.2.2.2.1, q1.2.2.2.2.2.2.2⟩, (fun q => by cases q), fun _ => rfl⟩, ⟨l1, l2, l3, l4, l5, l6, l7, ⟨fun j hj => absurd hj (by simp), Nat.zero_le _⟩, l9⟩, q4, q5, q6⟩
 rw [g.1 hq, rule_May.l5_eq]
 have hnil : ([] : List Int).length = 0 := rfl
 rw [rule_May.l7_eq] at h7
 simp (disch := omega) only [ss, cond_true, cond_false, Option.bind_some, hnil, rule_May.l6_eq, rule_May.l7_eq]
 exact h7
end
theorem RuleLess_pure (r : Rl) (n : Int) : voklaw5_RuleLess.f r n = some (true, ()) := by
 have l1t : voklaw5_RuleLess.l1 n true r.1 r.2.1 r.2.2.1 r.2.2.2.1 r.2.2.2.2.1 r.2.2.2.2.2.1 r.2.2.2.2.2.2.1 r.2.2.2.2.2.2.2.1 r.2.2.2.2.2.2.2.2.1 r.2.2.2.2.2.2.2.2.2.1 r.2.2.2.2.2.2.2.2.2.2.1 r.2.2.2.2.2.2.2.2.2.2.2.1 r.2.2.2.2.2.2.2.2.2.2.2.2.1 r.2.2.2.2.2.2.2.2.2.2.2.2.2.1 r.2.2.2.2.2.2.2.2.2.2.2.2.2.2.1 = some (true, ()) := by rw [voklaw5_RuleLess.l1_eq, cond_true, first_true]; rfl
 obtain ⟨b, hb, hsh⟩ := few_some r
 have hF : vokref_FewRule.f (r.1, r.2.1, r.2.2.1, r.2.2.2.1, r.2.2.2.2.1, r.2.2.2.2.2.1, r.2.2.2.2.2.2.1, r.2.2.2.2.2.2.2.1, r.2.2.2.2.2.2.2.2.1, r.2.2.2.2.2.2.2.2.2.1, r.2.2.2.2.2.2.2.2.2.2.1, r.2.2.2.2.2.2.2.2.2.2.2.1, r.2.2.2.2.2.2.2.2.2.2.2.2.1, r.2.2.2.2.2.2.2.2.2.2.2.2.2.1, r.2.2.2.2.2.2.2.2.2.2.2.2.2.2.1, ()) = some (b, ()) := hb
 rw [voklaw5_RuleLess.f_eq, first_true, hF]
 simp only [Option.bind_some, Bool.not_true, cond_false]
 cases b with
 | false => rw [Bool.not_false, cond_true, l1t]
 | true =>
  have hr := hsh rfl
  rw [Bool.not_true, cond_false]
  obtain ⟨m, hm⟩ := may_some r hr
  have hM : rule_May.f (r.1, r.2.1, r.2.2.1, r.2.2.2.1, r.2.2.2.2.1, r.2.2.2.2.2.1, r.2.2.2.2.2.2.1, r.2.2.2.2.2.2.2.1, r.2.2.2.2.2.2.2.2.1, r.2.2.2.2.2.2.2.2.2.1, r.2.2.2.2.2.2.2.2.2.2.1, r.2.2.2.2.2.2.2.2.2.2.2.1, r.2.2.2.2.2.2.2.2.2.2.2.2.1, r.2.2.2.2.2.2.2.2.2.2.2.2.2.1, r.2.2.2.2.2.2.2.2.2.2.2.2.2.2.1, ()) = some (m, ()) := hm
  rw [hM]
  simp only [Option.bind_some]
  cases m with
  | false => rw [Bool.not_false, cond_true, l1t]
  | true =>
   rw [Bool.not_true, cond_false]
   by_cases c1 : n < 1
   ·simp (disch := omega) only [ss, cond_true, cond_false, Option.bind_some, l1t]
   by_cases c2 : n > 1000
   ·simp (disch := omega) only [ss, cond_true, cond_false, Option.bind_some, l1t]
   have hC : vokref_CopyRule.f (r.1, r.2.1, r.2.2.1, r.2.2.2.1, r.2.2.2.2.1, r.2.2.2.2.2.1, r.2.2.2.2.2.2.1, r.2.2.2.2.2.2.2.1, r.2.2.2.2.2.2.2.2.1, r.2.2.2.2.2.2.2.2.2.1, r.2.2.2.2.2.2.2.2.2.2.1, r.2.2.2.2.2.2.2.2.2.2.2.1, r.2.2.2.2.2.2.2.2.2.2.2.2.1, r.2.2.2.2.2.2.2.2.2.2.2.2.2.1, r.2.2.2.2.2.2.2.2.2.2.2.2.2.2.1, ()) = some (r, ()) := copy_rule r hr
   have hq := less_may r.1 r.2.1 r.2.2.1 r.2.2.2.1 r.2.2.2.2.1 r.2.2.2.2.2.1 r.2.2.2.2.2.2.1 r.2.2.2.2.2.2.2.1 r.2.2.2.2.2.2.2.2.1 r.2.2.2.2.2.2.2.2.2.1 r.2.2.2.2.2.2.2.2.2.2.1 r.2.2.2.2.2.2.2.2.2.2.2.1 r.2.2.2.2.2.2.2.2.2.2.2.2.1 r.2.2.2.2.2.2.2.2.2.2.2.2.2.1 r.2.2.2.2.2.2.2.2.2.2.2.2.2.2.1 hr hm n (by omega) (by omega)
   have hqs : shortR (r.1, n, 0, 0, r.2.2.2.2.1, false, r.2.2.2.2.2.2.1, r.2.2.2.2.2.2.2.1, r.2.2.2.2.2.2.2.2.1, r.2.2.2.2.2.2.2.2.2.1, r.2.2.2.2.2.2.2.2.2.2.1, r.2.2.2.2.2.2.2.2.2.2.2.1, r.2.2.2.2.2.2.2.2.2.2.2.2.1, r.2.2.2.2.2.2.2.2.2.2.2.2.2.1, [], ()) := ⟨hr.1, hr.2.1, hr.2.2.1, hr.2.2.2.1, hr.2.2.2.2.1, hr.2.2.2.2.2.1, hr.2.2.2.2.2.2.1, hr.2.2.2.2.2.2.2.1, Nat.zero_le _⟩
   obtain ⟨p1, p2, _, _, h60, _⟩ := print_ok _ hqs hq
   have p3 := parse_back _ hqs hq
   have hS := same_refl _ h60
   simp (disch := omega) only [ss, cond_true, cond_false, Option.bind_some, voklaw5_RuleLess.l1_eq, hC, p1, p3, first_true, hq, szS, hS]
end Go.GV.YtkkfgajlnpcpcaaGreatDoor
