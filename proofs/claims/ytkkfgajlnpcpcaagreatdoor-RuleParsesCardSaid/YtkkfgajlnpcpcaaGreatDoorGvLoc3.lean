/-
GV: operations that write. (This session's own text.)
-/
import Derived.Test.YtkkfgajlnpcpcaaGreatDoorGvLoc2
set_option linter.unusedVariables false
set_option linter.unusedSimpArgs false
namespace Go.GV
section
variable {E : Env} {s t s1 : St} {o : Oper} {out : Out E}
/-- What a writing comes to, where the slots besides are others. -/
def Writes (E : Env) (o : Oper) (s t : St) (out : Out E) : Prop :=
  ∃ g x ob, out = .go g x ob ∧ step E t o = some (t, .go g x ob) ∧ ∀ n, n ∉ s.wrNms o → n ≠ s.id o.dst → look ob n = look s.ob n
theorem w_alloc {T : TypeId} (ho : o.op = .alloc T) (ha : Agr o s t) (hob : t.ob = s.ob) (hf : t.fresh (s.id o.dst) = s.fresh (s.id o.dst)) (h : step E s o = some (s, out)) : Writes E o s t out := by
  have hid := ha.id
  simp only [step, ho] at h
  split at h
  · rename_i ty e1
    split at h
    · rename_i e2
      cases h
      exact ⟨_, _, _, rfl, by simp only [step, ho, e1, hid, hf, hob, if_pos e2], fun n _ hn => by rw [look_put, if_neg (Ne.symm hn)]⟩
    · cases h
  · rename_i e1
    split at h
    · rename_i e2
      cases h
      exact ⟨_, _, _, rfl, by simp only [step, ho, e1, hid, hf, hob, if_pos e2], fun n _ hn => by rw [look_put, if_neg (Ne.symm hn)]⟩
    · cases h
theorem w_box {T : TypeId} {y : Operand} (ho : o.op = .box T y) (ha : Agr o s t) (hob : t.ob = s.ob) (hf : t.fresh (s.id o.dst) = s.fresh (s.id o.dst)) (h : step E s o = some (s, out)) : Writes E o s t out := by
  have hid := ha.id
  have h2 : t.opnd y = s.opnd y := ha.op y (by simp [ho, Op.operands])
  simp only [step, ho] at h
  split at h
  · rename_i z e1
    split at h
    · rename_i c e2
      split at h
      · rename_i ag n e3
        split at h
        · rename_i e4
          cases h
          exact ⟨_, _, _, rfl, by simp only [step, ho, h2, e1, e2, e3, hid, hf, hob, if_pos e4], fun n _ hn => by rw [look_put, if_neg (Ne.symm hn)]⟩
        · cases h
      · cases h
    · cases h
  · cases h
theorem w_store {T : TypeId} {y z : Operand} (ho : o.op = .store T y z) (ha : Agr o s t) (hob : t.ob = s.ob) (h : step E s o = some (s, out)) : Writes E o s t out := by
  have hy : y ∈ o.op.operands.toList := by simp [ho, Op.operands]
  have h2 : t.opnd y = s.opnd y := ha.op y hy
  have h3 : t.opnd z = s.opnd z := ha.op z (by simp [ho, Op.operands])
  have hwn : s.wrNms o = s.opNms o := by simp only [St.wrNms, ho]
  simp only [Writes, hwn]
  simp only [step, ho] at h
  split at h
  · cases h
  · rename_i ag n e1
    split at h
    · rename_i b off z' e2 e3
      split at h
      · rename_i U c l e4 e5
        split at h
        · rename_i e6
          split at h
          · rename_i c' e7
            cases h
            refine ⟨_, _, _, rfl, by simp only [step, ho, h2, h3, e1, e2, e3, e4, e5, e7, hob, if_pos e6], fun n hn _ => ?_⟩
            rw [look_put, if_neg]
            rintro rfl
            exact hn (opNms_mem hy e2 (by simp [Slot.nms, Lf.nms]))
          · cases h
        · cases h
      · cases h
    · rename_i r i off z' e2 e3
      split at h
      · rename_i e ty xs l e4 e5
        split at h
        · rename_i e6
          split at h
          · rename_i c' e7
            split at h
            · rename_i w r' e8
              cases h
              refine ⟨_, _, _, rfl, by simp only [step, ho, h2, h3, e1, e2, e3, e4, e5, e7, e8, hob, if_pos e6], fun n hn _ => ?_⟩
              rw [look_put, if_neg]
              rintro rfl
              exact hn (opNms_mem hy e2 (by simp [Slot.nms]))
            · cases h
          · cases h
        · cases h
      · cases h
    · cases h
theorem w_make {T : TypeId} {y z : Operand} (ho : o.op = .makeSlice T y z) (ha : Agr o s t) (hob : t.ob = s.ob) (hf : t.fresh (s.id o.dst) = s.fresh (s.id o.dst)) (h : step E s o = some (s, out)) : Writes E o s t out := by
  have hid := ha.id
  have h2 : t.opnd y = s.opnd y := ha.op y (by simp [ho, Op.operands])
  have h3 : t.opnd z = s.opnd z := ha.op z (by simp [ho, Op.operands])
  simp only [step, ho] at h
  split at h
  · rename_i e ty n c e1 e2 e3
    split at h
    · rename_i e4
      cases h
      exact ⟨_, _, _, rfl, by simp only [step, ho, h2, h3, e1, e2, e3, hid, hf, hob, if_pos e4], fun n _ hn => by rw [look_put, if_neg (Ne.symm hn)]⟩
    · cases h
  · cases h
theorem w_slice {T : TypeId} {m : Nat} {ps : Array (Nat × Operand)} (hnl : E.litO o = false) (ho : o.op = .buildSlice T m ps) (ha : Agr o s t) (hob : t.ob = s.ob) (hf : t.fresh (s.id o.dst) = s.fresh (s.id o.dst)) (h : step E s o = some (s, out)) : Writes E o s t out := by
  have hid := ha.id
  have h2 : ∀ p ∈ ps.toList, t.opnd p.2 = s.opnd p.2 := fun p hp => ha.op p.2 (by
    simp only [ho, Op.operands, List.toList_toArray]
    exact List.mem_map.2 ⟨p, hp, rfl⟩)
  have hnl' : ¬ E.litO o = true := by rw [hnl]; decide
  simp only [step, ho, if_neg hnl'] at h
  split at h
  · rename_i e ty e1
    split at h
    · rename_i xs e2
      split at h
      · rename_i e3
        have hfz : s.frzAll (partCells s ps.toList) = s := congrArg Prod.fst (Option.some.inj h)
        rw [hfz] at h e2 e3
        have ht : t.frzAll (partCells t ps.toList) = t := by rw [partCells_congr h2]; exact frzAll_same hfz hob
        cases h
        exact ⟨_, _, _, rfl, by simp only [step, ho, if_neg hnl', e1, ht, partsL_congr h2, e2, hid, hf, hob, if_pos e3], fun n _ hn => by rw [look_put, if_neg (Ne.symm hn)]⟩
      · cases h
    · cases h
  · cases h
theorem w_append {c : Call} (ho : o.op = .call c) (hb : c.callee = .builtin .append) (ha : Agr o s t) (hob : t.ob = s.ob) (hf : t.fresh (s.id o.dst) = s.fresh (s.id o.dst)) (h : step E s o = some (s, out)) : Writes E o s t out := by
  have hid := ha.id
  have hop : o.op.operands = c.args := by simp [ho, Op.operands, Call.operands, hb]
  simp only [step, ho, hb, appd] at h
  split at h
  · rename_i y z T U e1 e2
    have hy : y ∈ o.op.operands.toList := by rw [hop, e1]; simp
    have h2 : t.opnd y = s.opnd y := ha.op y hy
    have h3 : t.opnd z = s.opnd z := ha.op z (by rw [hop, e1]; simp)
    split at h
    · rename_i e ty a b e3 e4 e5
      split at h
      · rename_i xs e6
        split at h
        · rename_i ys e7
          cases a with
          | nl =>
            dsimp only at h
            split at h
            · rename_i e8
              cases h
              exact ⟨_, _, _, rfl, by simp only [step, ho, hb, appd, h2, h3, e1, e2, e3, e4, e5, e6, e7, hid, hf, hob, if_pos e8], fun n _ hn => by rw [look_put, if_neg (Ne.symm hn)]⟩
            · cases h
          | o r =>
            dsimp only at h
            split at h
            · rename_i e8
              cases h
              refine ⟨_, _, _, rfl, by simp only [step, ho, hb, appd, h2, h3, e1, e2, e3, e4, e5, e6, e7, hid, hf, hob, if_pos e8], fun n hn hn2 => ?_⟩
              rw [look_put, if_neg (Ne.symm hn2), look_del, if_neg]
              rintro rfl
              exact hn (by simp [St.wrNms, ho, hb, e1, e4, Slot.nms, Lf.nms])
            · cases h
          | oh r k =>
            dsimp only at h
            split at h
            · rename_i e8
              cases h
              refine ⟨_, _, _, rfl, by simp only [step, ho, hb, appd, h2, h3, e1, e2, e3, e4, e5, e6, e7, hid, hf, hob, if_pos e8], fun n hn hn2 => ?_⟩
              rw [look_put, if_neg (Ne.symm hn2), look_del, if_neg]
              rintro rfl
              exact hn (by simp [St.wrNms, ho, hb, e1, e4, Slot.nms, Lf.nms])
            · cases h
          | _ => cases h
        · cases h
      · cases h
    · cases h
  · cases h
theorem w_clear {c : Call} (ho : o.op = .call c) (hb : c.callee = .builtin .clear) (ha : Agr o s t) (hob : t.ob = s.ob) (h : step E s o = some (s, out)) : Writes E o s t out := by
  have hop : o.op.operands = c.args := by simp [ho, Op.operands, Call.operands, hb]
  have hwn : s.wrNms o = s.opNms o := by simp only [St.wrNms, ho, hb]
  simp only [Writes, hwn]
  simp only [step, ho, hb] at h
  split at h
  · rename_i y T e1 e2
    have hy : y ∈ o.op.operands.toList := by rw [hop, e1]; simp
    have h2 : t.opnd y = s.opnd y := ha.op y hy
    split at h
    · rename_i e ty r l z e3 e4
      split at h
      · rename_i e5
        split at h
        · rename_i xs e6
          cases h
          refine ⟨_, _, _, rfl, by simp only [step, ho, hb, h2, e1, e2, e3, e4, e6, hob, if_pos e5], fun n hn _ => ?_⟩
          rw [look_put, if_neg]
          rintro rfl
          exact hn (opNms_mem hy e4 (by simp [Slot.nms, Lf.nms]))
        · cases h
      · cases h
    · cases h
  · cases h
theorem w_step {g : List Bool} {x : Slot} {ob : List (Nat × Ob)} (hr' : (rOp o.op || E.litO o) = false) (ha : Agr o s t) (hob : t.ob = s.ob) (hf : t.fresh (s.id o.dst) = s.fresh (s.id o.dst)) (hinl : E.inl = []) (h : step E s o = some (s, .go g x ob)) : Writes E o s t (.go g x ob : Out E) := by
  obtain ⟨hr, hnl⟩ := Bool.or_eq_false_iff.1 hr'
  cases ho : o.op with
  | alloc T => exact w_alloc ho ha hob hf h
  | box T y => exact w_box ho ha hob hf h
  | store T y z => exact w_store ho ha hob h
  | makeSlice T y z => exact w_make ho ha hob hf h
  | buildSlice T m ps => exact w_slice hnl ho ha hob hf h
  | call c =>
    cases hb : c.callee with
    | builtin b =>
      rw [ho] at hr
      simp only [rOp, hb] at hr
      cases b <;> first
        | (cases hr; done)
        | exact w_append ho hb ha hob hf h
        | exact w_clear ho hb ha hob h
        | (simp only [step, ho, hb] at h; cases h; done)
    | value y =>
      exfalso
      cases y with
      | func f =>
        simp only [step, ho, hb] at h
        obtain ⟨_, _, _, _, e⟩ := callOut_go hinl h
        rcases e with e | e <;> cases e
      | global g => simp only [step, ho, hb, St.opnd] at h; cases h
      | tmp i =>
        simp only [step, ho, hb] at h
        split at h
        · split at h
          · obtain ⟨_, _, _, _, e⟩ := callOut_go hinl h
            rcases e with e | e <;> cases e
          · cases h
        · cases h
      | const v =>
        simp only [step, ho, hb] at h
        split at h
        · split at h
          · obtain ⟨_, _, _, _, e⟩ := callOut_go hinl h
            rcases e with e | e <;> cases e
          · cases h
        · cases h
    | invoke r m => simp only [step, ho, hb] at h; cases h
  | _ => rw [ho] at hr; first | (cases hr; done) | (simp only [step, ho] at h; cases h; done)
end
end Go.GV
