/-
GV: what an operation comes to hangs on what it looks at alone. (This session's own text.)
-/
import Derived.Test.YtkkfgajlnpcpcaaGreatDoorGvRun
set_option linter.unusedVariables false
set_option linter.unusedSimpArgs false
namespace Go.GV
section
variable {E : Env} {s t s1 : St} {o : Oper}
theorem lf_names {c : Lf} {n : Nat} : c.names n = true ↔ n ∈ c.nms := by
  cases c with
  | o r => simp only [Lf.names, Lf.nms, beqt, List.mem_singleton]; exact eq_comm
  | oh r _ => simp only [Lf.names, Lf.nms, beqt, List.mem_singleton]; exact eq_comm
  | ot r _ _ => simp only [Lf.names, Lf.nms, beqt, List.mem_singleton]; exact eq_comm
  | p r _ => simp only [Lf.names, Lf.nms, beqt, List.mem_singleton]; exact eq_comm
  | fn f cs => simp only [Lf.names, Lf.nms, List.any_eq_true, beqt]; exact ⟨fun ⟨x, h, e⟩ => e ▸ h, fun h => ⟨n, h, rfl⟩⟩
  | _ => simp [Lf.names, Lf.nms]
theorem lfs_names {l : List Lf} {n : Nat} : l.any (Lf.names n) = true ↔ n ∈ l.flatMap Lf.nms := by
  simp [lf_names]
theorem slot_names {x : Slot} {n : Nat} : x.names n = true ↔ n ∈ x.nms := by
  cases x with
  | lf c => exact lf_names
  | ag l => exact lfs_names
  | q l => exact lfs_names
  | tp l => simp [Slot.names, Slot.nms, lf_names]
  | e r i off => simp only [Slot.names, Slot.nms, beqt, List.mem_singleton]; exact eq_comm
theorem slot_names_f {x : Slot} {n : Nat} (h : n ∉ x.nms) : x.names n = false := by
  cases hx : x.names n with
  | false => rfl
  | true => exact absurd (slot_names.1 hx) h
theorem lf_names_f {x : Lf} {n : Nat} (h : n ∉ x.nms) : x.names n = false := by
  cases hx : x.names n with
  | false => rfl
  | true => exact absurd (lf_names.1 hx) h
/-- The same operands. -/
structure Agr (o : Oper) (s t : St) : Prop where
  b : t.b = s.b
  op : ∀ y ∈ o.op.operands.toList, t.opnd y = s.opnd y
theorem Agr.id (h : Agr o s t) : t.id o.dst = s.id o.dst := by unfold St.id; rw [h.b]
theorem sameLen_eq {α β : Type} : ∀ {l : List α} {m : List β}, sameLen l m = true → l.length = m.length
  | [], [], _ => rfl
  | _ :: l, _ :: m, h => by simp only [sameLen] at h; simp [sameLen_eq h]
  | [], _ :: _, h => by cases h
  | _ :: _, [], h => by cases h

/-! ### What is frozen -/
theorem del_len {α : Type} (n : Nat) : ∀ l : List (Nat × α), (del l n).length ≤ l.length ∧ ((del l n).length = l.length → del l n = l)
  | [] => ⟨Nat.le_refl _, fun _ => rfl⟩
  | (k, b) :: l => by
    obtain ⟨h1, h2⟩ := del_len n l
    simp only [del]
    split
    · exact ⟨by simp; omega, fun h => by simp at h; omega⟩
    · exact ⟨by simp; exact h1, fun h => by rw [h2 (by simpa using h)]⟩
theorem delAll_len : ∀ (ns : List Nat) (l : List (Nat × Ob)), (delAll l ns).length ≤ l.length ∧ ((delAll l ns).length = l.length → delAll l ns = l)
  | [], _ => ⟨Nat.le_refl _, fun _ => rfl⟩
  | n :: ns, l => by
    obtain ⟨h1, h2⟩ := del_len n l
    obtain ⟨h3, h4⟩ := delAll_len ns (del l n)
    simp only [delAll]
    refine ⟨Nat.le_trans h3 h1, fun h => ?_⟩
    have e1 : (del l n).length = l.length := Nat.le_antisymm h1 (h ▸ h3)
    rw [h4 (by rw [h, e1]), h2 e1]
theorem frz_none {r : Nat} (h : ∀ E t xs, look s.ob r ≠ some (.row E t xs)) : s.frz r = s := by
  unfold St.frz
  split
  · rename_i h1; exact absurd h1 (h _ _ _)
  · rfl
theorem frz_len (r : Nat) : (s.frz r).ob.length ≤ s.ob.length ∧ ((s.frz r).ob.length = s.ob.length → s.frz r = s ∧ ∀ E t xs, look s.ob r ≠ some (.row E t xs)) := by
  cases h : look s.ob r with
  | none => rw [frz_none (by rw [h]; simp)]; exact ⟨Nat.le_refl _, fun _ => ⟨rfl, by simp⟩⟩
  | some b =>
    cases b with
    | box T l => rw [frz_none (by rw [h]; simp)]; exact ⟨Nat.le_refl _, fun _ => ⟨rfl, by simp⟩⟩
    | row E t xs =>
      obtain ⟨h1, h2⟩ := del_len r s.ob
      have hl : (s.frz r).ob.length = (del s.ob r).length := by unfold St.frz; rw [h]; simp
      refine ⟨by rw [hl]; exact h1, fun e => ?_⟩
      have := h2 (by rw [← hl]; exact e)
      have h3 := look_del s.ob r r
      rw [this, h] at h3
      simp at h3
theorem frzAll_len : ∀ (l : List Lf) (s : St), (s.frzAll l).ob.length ≤ s.ob.length ∧ ((s.frzAll l).ob.length = s.ob.length → s.frzAll l = s ∧ ∀ r ∈ rowNames l, ∀ E t xs, look s.ob r ≠ some (.row E t xs))
  | [], s => ⟨Nat.le_refl _, fun _ => ⟨rfl, by simp [rowNames]⟩⟩
  | c :: l, s => by
    have hr : ∀ r, ((s.frz r).frzAll l).ob.length ≤ s.ob.length ∧ (((s.frz r).frzAll l).ob.length = s.ob.length → (s.frz r).frzAll l = s ∧ ∀ r' ∈ r :: rowNames l, ∀ E t xs, look s.ob r' ≠ some (.row E t xs)) := by
      intro r
      obtain ⟨h1, h2⟩ := frz_len (s := s) r
      obtain ⟨h3, h4⟩ := frzAll_len l (s.frz r)
      refine ⟨Nat.le_trans h3 h1, fun h => ?_⟩
      have e1 : (s.frz r).ob.length = s.ob.length := Nat.le_antisymm h1 (h ▸ h3)
      obtain ⟨h5, h6⟩ := h2 e1
      obtain ⟨h7, h8⟩ := h4 (by rw [h, e1])
      rw [h5] at h7 h8 ⊢
      refine ⟨h7, fun r' hr' => ?_⟩
      rcases List.mem_cons.1 hr' with rfl | hr'
      · exact h6
      · exact h8 r' hr'
    cases c <;> first | exact hr _ | exact frzAll_len l s
theorem frzAll_id : ∀ {l : List Lf} {s : St}, (∀ r ∈ rowNames l, ∀ E t xs, look s.ob r ≠ some (.row E t xs)) → s.frzAll l = s
  | [], _, _ => rfl
  | c :: l, s, h => by
    cases c <;> first
      | (simp only [St.frzAll]; rw [frz_none (h _ (by simp [rowNames]))]; exact frzAll_id fun r hr => h r (by simp [rowNames, hr]))
      | exact frzAll_id (l := l) h
theorem frzAll_nil {l : List Lf} (h : rowNames l = []) : s.frzAll l = s := frzAll_id (by rw [h]; simp)
theorem frzAll_same {l : List Lf} (h : s.frzAll l = s) (ht : t.ob = s.ob) : t.frzAll l = t :=
  frzAll_id (by rw [ht]; exact ((frzAll_len l s).2 (by rw [h])).2)

/-! ### Readings -/
theorem rowAt_congr {ob ob' : List (Nat × Ob)} {e : TypeId} {ty : Ty} {r : Nat} (h : look ob' r = look ob r) : rowAt? ob' e ty r = rowAt? ob e ty r := by unfold rowAt?; rw [h]
theorem list_congr {ob ob' : List (Nat × Ob)} {e : TypeId} {ty : Ty} {c : Lf} (h : ∀ n ∈ c.nms, look ob' n = look ob n) : c.list ob' e ty = c.list ob e ty := by
  cases c with
  | o r => exact rowAt_congr (h r (by simp [Lf.nms]))
  | oh r k => exact congrArg (fun z => Option.bind z fun xs => some (xs.take k.toNat)) (rowAt_congr (h r (by simp [Lf.nms])))
  | ot r k z => exact congrArg (fun y => if Nat.beq z ty.sz = true then Option.bind y fun xs => some (xs.drop k.toNat) else none) (rowAt_congr (h r (by simp [Lf.nms])))
  | v ty x => rfl
  | _ => rfl
theorem len_congr {ob ob' : List (Nat × Ob)} {c : Lf} (h : ∀ n ∈ c.nms, look ob' n = look ob n) : c.len ob' = c.len ob := by
  cases c with
  | o r => simp only [Lf.len]; rw [h r (by simp [Lf.nms])]
  | ot r j z => simp only [Lf.len]; rw [h r (by simp [Lf.nms])]
  | v ty x => cases ty <;> rfl
  | _ => rfl
theorem lfrz_congr {ob ob' : List (Nat × Ob)} {c : Lf} (h : ∀ n ∈ c.nms, look ob' n = look ob n) : c.frz ob' = c.frz ob := by
  cases c with
  | o r => simp only [Lf.frz]; rw [h r (by simp [Lf.nms])]
  | oh r _ => simp only [Lf.frz]; rw [h r (by simp [Lf.nms])]
  | ot r _ _ => simp only [Lf.frz]; rw [h r (by simp [Lf.nms])]
  | _ => rfl
theorem optInt_congr {y : Option Operand} (h : ∀ z ∈ y, t.opnd z = s.opnd z) : optInt t y = optInt s y := by
  cases y with
  | none => rfl
  | some z => simp only [optInt]; rw [h z rfl]
theorem cellsOf_congr : ∀ {l : List Operand}, (∀ y ∈ l, t.opnd y = s.opnd y) → t.cellsOf l = s.cellsOf l
  | [], _ => rfl
  | y :: l, h => by
    simp only [St.cellsOf]
    rw [h y List.mem_cons_self, cellsOf_congr fun z hz => h z (List.mem_cons_of_mem _ hz)]
theorem buildL_congr {fs : Tys} : ∀ {ps : List (Nat × Operand)} {l : List Lf}, (∀ p ∈ ps, t.opnd p.2 = s.opnd p.2) → buildL fs t l ps = buildL fs s l ps
  | [], _, _ => rfl
  | (i, y) :: r, l, h => by
    have ih := fun l => buildL_congr (fs := fs) (ps := r) (l := l) fun p hp => h p (List.mem_cons_of_mem _ hp)
    simp only [buildL, ih]
    rw [h (i, y) List.mem_cons_self]
theorem partsL_congr {ty : Ty} : ∀ {ps : List (Nat × Operand)} {n : Nat}, (∀ p ∈ ps, t.opnd p.2 = s.opnd p.2) → partsL ty t n ps = partsL ty s n ps
  | [], _, _ => rfl
  | (i, y) :: r, n, h => by
    have ih := fun n => partsL_congr (ty := ty) (ps := r) (n := n) fun p hp => h p (List.mem_cons_of_mem _ hp)
    simp only [partsL, ih]
    rw [h (i, y) List.mem_cons_self]
theorem partCells_congr : ∀ {ps : List (Nat × Operand)}, (∀ p ∈ ps, t.opnd p.2 = s.opnd p.2) → partCells t ps = partCells s ps
  | [], _ => rfl
  | (i, y) :: r, h => by
    simp only [partCells]
    rw [h (i, y) List.mem_cons_self, partCells_congr fun p hp => h p (List.mem_cons_of_mem _ hp)]
theorem srcL_congr {ob ob' : List (Nat × Ob)} {e : TypeId} {ty : Ty} {U : TypeId} {c : Lf} (h : ∀ n ∈ c.nms, look ob' n = look ob n) : srcL E ob' e ty U c = srcL E ob e ty U c := by
  unfold srcL
  split
  · rw [list_congr h]
  · rfl
end
end Go.GV
