/-
GV: operations that only read. (This session's own text.)
-/
import Derived.Test.YtkkfgajlnpcpcaaGreatDoorGvLoc
set_option linter.unusedVariables false
set_option linter.unusedSimpArgs false
namespace Go.GV
section
variable {E : Env} {s t s1 : St} {o : Oper}
theorem opNms_mem {y : Operand} {z : Slot} (hy : y ∈ o.op.operands.toList) (hz : s.opnd y = some z) {n : Nat} (hn : n ∈ z.nms) : n ∈ s.opNms o := by
  unfold St.opNms
  rw [List.mem_flatMap]
  exact ⟨y, hy, by rw [hz]; exact hn⟩
/-- What a reading comes to. -/
def Reads (E : Env) (o : Oper) (s t : St) (out : Out E) : Prop :=
  (∃ g x, out = .go g x s.ob ∧ step E t o = some (t, .go g x t.ob)) ∨ (∃ c x y, out = .br c x y ∧ step E t o = some (t, .br c x y))
variable {out : Out E}
theorem r_move {y : Operand} (ho : o.op = .move y ∨ o.op = .assign y) (ha : Agr o s t) (h : step E s o = some (s, out)) : Reads E o s t out := by
  have h1 : t.opnd y = s.opnd y := ha.op y (by rcases ho with ho | ho <;> simp [ho, Op.operands])
  rcases ho with ho | ho
  all_goals
    simp only [step, ho] at h
    split at h
    · rename_i z hz
      cases h
      exact .inl ⟨_, _, rfl, by simp only [step, ho, h1, hz]⟩
    · cases h
theorem r_pick {c y z : Operand} (ho : o.op = .pick c y z) (ha : Agr o s t) (h : step E s o = some (s, out)) : Reads E o s t out := by
  have h1 : t.opnd c = s.opnd c := ha.op c (by simp [ho, Op.operands])
  have h2 : t.opnd y = s.opnd y := ha.op y (by simp [ho, Op.operands])
  have h3 : t.opnd z = s.opnd z := ha.op z (by simp [ho, Op.operands])
  simp only [step, ho] at h
  split at h
  · rename_i c x1 x2 e1 e2 e3
    cases h
    exact .inr ⟨_, _, _, rfl, by simp only [step, ho, h1, h2, h3, e1, e2, e3]⟩
  · cases h
theorem r_bin {op : BinOp} {T U : TypeId} {y z : Operand} (ho : o.op = .binOp op T y z U) (ha : Agr o s t) (h : step E s o = some (s, out)) : Reads E o s t out := by
  have h2 : t.opnd y = s.opnd y := ha.op y (by simp [ho, Op.operands])
  have h3 : t.opnd z = s.opnd z := ha.op z (by simp [ho, Op.operands])
  simp only [step, ho] at h
  split at h
  · rename_i c1 c2 e1 e2
    split at h
    · rename_i hb
      split at h
      · rename_i g c hc
        cases h
        exact .inl ⟨_, _, rfl, by simp only [step, ho, h2, h3, e1, e2, hc, if_pos hb]⟩
      · cases h
    · cases h
  · rename_i l m e1 e2
    split at h
    · rename_i fs hT
      split at h
      · rename_i hq
        split at h
        · rename_i xv yv hp1 hp2
          split at h
          · cases h
            exact .inl ⟨_, _, rfl, by simp only [step, ho, h2, h3, e1, e2, hT, if_pos hq, hp1, hp2]⟩
          · cases h
            exact .inl ⟨_, _, rfl, by simp only [step, ho, h2, h3, e1, e2, hT, if_pos hq, hp1, hp2]⟩
          · cases h
        · cases h
      · cases h
    · cases h
  · cases h
theorem r_un {op : UnOp} {T : TypeId} {y : Operand} (ho : o.op = .unOp op T y) (ha : Agr o s t) (h : step E s o = some (s, out)) : Reads E o s t out := by
  have h2 : t.opnd y = s.opnd y := ha.op y (by simp [ho, Op.operands])
  simp only [step, ho] at h
  split at h
  · rename_i k n e1
    cases h
    exact .inl ⟨_, _, rfl, by simp only [step, ho, h2, e1]⟩
  · rename_i b e1
    cases h
    exact .inl ⟨_, _, rfl, by simp only [step, ho, h2, e1]⟩
  · cases h
theorem r_extract {y : Operand} {i : Nat} (ho : o.op = .extract y i) (ha : Agr o s t) (h : step E s o = some (s, out)) : Reads E o s t out := by
  have h2 : t.opnd y = s.opnd y := ha.op y (by simp [ho, Op.operands])
  simp only [step, ho] at h
  split at h
  · rename_i l e1
    split at h
    · rename_i c e2
      cases h
      exact .inl ⟨_, _, rfl, by simp only [step, ho, h2, e1, e2]⟩
    · cases h
  · cases h
theorem r_field {T : TypeId} {y : Operand} {f : Nat} (ho : o.op = .field T y f) (ha : Agr o s t) (h : step E s o = some (s, out)) : Reads E o s t out := by
  have h2 : t.opnd y = s.opnd y := ha.op y (by simp [ho, Op.operands])
  simp only [step, ho] at h
  split at h
  · rename_i l fs e1 e2
    split at h
    · rename_i ty e3
      split at h
      · rename_i z e4
        cases h
        exact .inl ⟨_, _, rfl, by simp only [step, ho, h2, e1, e2, e3, e4]⟩
      · cases h
    · cases h
  · cases h
theorem r_build {T : TypeId} {ps : Array (Nat × Operand)} (ho : o.op = .build T ps) (ha : Agr o s t) (h : step E s o = some (s, out)) : Reads E o s t out := by
  have h2 : ∀ p ∈ ps.toList, t.opnd p.2 = s.opnd p.2 := fun p hp => ha.op p.2 (by
    simp only [ho, Op.operands, List.toList_toArray]
    exact List.mem_map.2 ⟨p, hp, rfl⟩)
  simp only [step, ho] at h
  split at h
  · rename_i fs e1
    split at h
    · rename_i l e2
      cases h
      exact .inl ⟨_, _, rfl, by simp only [step, ho, buildL_congr h2, e1, e2]⟩
    · cases h
  · cases h
theorem r_nilCheck {y : Operand} (ho : o.op = .nilCheck y) (ha : Agr o s t) (h : step E s o = some (s, out)) : Reads E o s t out := by
  have h2 : t.opnd y = s.opnd y := ha.op y (by simp [ho, Op.operands])
  simp only [step, ho] at h
  split at h
  · rename_i b off e1
    cases h
    exact .inl ⟨_, _, rfl, by simp only [step, ho, h2, e1]⟩
  · rename_i f cs e1
    split at h
    · rename_i hf
      cases h
      exact .inl ⟨_, _, rfl, by simp only [step, ho, h2, e1, if_pos hf]⟩
    · cases h
  · cases h
theorem r_makeInterface {T : TypeId} {y : Operand} (ho : o.op = .makeInterface T y) (ha : Agr o s t) (h : step E s o = some (s, out)) : Reads E o s t out := by
  have h2 : t.opnd y = s.opnd y := ha.op y (by simp [ho, Op.operands])
  simp only [step, ho] at h
  split at h
  · rename_i b e1
    split at h
    · rename_i hT
      cases h
      exact .inl ⟨_, _, rfl, by simp only [step, ho, h2, e1, if_pos hT]⟩
    · cases h
  · rename_i z hz e1
    split at h
    · rename_i l ty e2 e3
      split at h
      · rename_i e4
        split at h
        · rename_i v r e5
          split at h
          · rename_i e6
            cases h
            refine .inl ⟨_, _, rfl, ?_⟩
            simp only [step, ho, h2, e1, e2, e3, if_pos e4, e5, if_pos e6]
          · cases h
        · cases h
      · cases h
    · cases h
  · cases h
theorem r_typeAssert {T U : TypeId} {y : Operand} {b : Bool} (ho : o.op = .typeAssert y T U b) (ha : Agr o s t) (h : step E s o = some (s, out)) : Reads E o s t out := by
  have h2 : t.opnd y = s.opnd y := ha.op y (by simp [ho, Op.operands])
  cases b with
  | false => simp only [step, ho] at h; cases h
  | true =>
    simp only [step, ho] at h
    split at h
    · rename_i V ty v e1
      split at h
      · rename_i e2
        cases h
        exact .inl ⟨_, _, rfl, by simp only [step, ho, h2, e1, if_pos e2]⟩
      · cases h
    · cases h
theorem r_index {T : TypeId} {y z : Operand} (ho : o.op = .index T y z) (ha : Agr o s t) (h : step E s o = some (s, out)) : Reads E o s t out := by
  have h2 : t.opnd y = s.opnd y := ha.op y (by simp [ho, Op.operands])
  have h3 : t.opnd z = s.opnd z := ha.op z (by simp [ho, Op.operands])
  simp only [step, ho] at h
  split at h
  · rename_i b ci e1 e2
    split at h
    · rename_i k n e3 e4
      cases h
      exact .inl ⟨_, _, rfl, by simp only [step, ho, h2, h3, e1, e2, e3, e4]⟩
    · cases h
  · cases h
theorem r_makeFunc {f : Fn} {l m : Array Operand} (ho : o.op = .makeFunc f l m) (ha : Agr o s t) (h : step E s o = some (s, out)) : Reads E o s t out := by
  cases f with
  | func f =>
    simp only [step, ho] at h
    split at h
    · rename_i he
      have h2 : t.cellsOf m.toList = s.cellsOf m.toList := cellsOf_congr fun y hy => ha.op y (by simp only [ho, Op.operands, Array.toList_append]; exact List.mem_append_right _ hy)
      split at h
      · rename_i ls e1
        split at h
        · rename_i bs e2
          split at h
          · rename_i hf
            cases h
            exact .inl ⟨_, _, rfl, by simp only [step, ho, h2, e1, e2, if_pos he, if_pos hf]⟩
          · cases h
        · cases h
      · cases h
    · cases h
  | _ => simp only [step, ho] at h; cases h
theorem r_len {c : Call} (ho : o.op = .call c) (hb : c.callee = .builtin .len) (ha : Agr o s t) (hl : ∀ n ∈ s.opNms o, look t.ob n = look s.ob n) (h : step E s o = some (s, out)) : Reads E o s t out := by
  have hop : o.op.operands = c.args := by simp [ho, Op.operands, Call.operands, hb]
  simp only [step, ho, hb] at h
  split at h
  · rename_i y e1
    have hy : y ∈ o.op.operands.toList := by rw [hop, e1]; simp
    have h2 : t.opnd y = s.opnd y := ha.op y hy
    split at h
    · rename_i z e2
      have hc : z.len t.ob = z.len s.ob := len_congr fun n hn => hl n (opNms_mem hy e2 hn)
      split at h
      · rename_i e3
        split at h
        · rename_i n e4
          cases h
          exact .inl ⟨_, _, rfl, by simp only [step, ho, hb, h2, hc, e1, e2, e4, if_pos e3]⟩
        · cases h
      · cases h
    · cases h
  · cases h
theorem r_minmax {c : Call} (ho : o.op = .call c) (hb : c.callee = .builtin .min ∨ c.callee = .builtin .max) (ha : Agr o s t) (h : step E s o = some (s, out)) : Reads E o s t out := by
  rcases hb with hb | hb
  all_goals
    have hop : o.op.operands = c.args := by simp [ho, Op.operands, Call.operands, hb]
    have h2 : t.cellsOf c.args.toList = s.cellsOf c.args.toList := cellsOf_congr fun y hy => ha.op y (by rw [hop]; exact hy)
    simp only [step, ho, hb] at h
    split at h
    · rename_i l e1
      split at h
      · rename_i k n e2
        cases h
        exact .inl ⟨_, _, rfl, by simp only [step, ho, hb, h2, e1, e2]⟩
      · cases h
    · cases h
theorem r_fieldAddr {T : TypeId} {y : Operand} {f : Nat} (ho : o.op = .fieldAddr T y f) (ha : Agr o s t) (hl : ∀ n ∈ s.opNms o, look t.ob n = look s.ob n) (h : step E s o = some (s, out)) : Reads E o s t out := by
  have hy : y ∈ o.op.operands.toList := by simp [ho, Op.operands]
  have h2 : t.opnd y = s.opnd y := ha.op y hy
  simp only [step, ho] at h
  split at h
  · rename_i fs e1
    split at h
    · rename_i ty e2
      split at h
      · rename_i e3
        split at h
        · rename_i b off e4
          cases h
          exact .inl ⟨_, _, rfl, by simp only [step, ho, h2, e1, e2, e4, if_pos e3]⟩
        · rename_i l e4
          cases h
          exact .inl ⟨_, _, rfl, by simp only [step, ho, h2, e1, e2, e4, if_pos e3]⟩
        · rename_i r i off e4
          have h5 := hl r (opNms_mem hy e4 (by simp [Slot.nms]))
          split at h
          · rename_i e5
            cases h
            exact .inl ⟨_, _, rfl, by simp only [step, ho, h2, e1, e2, e4, h5, e5, if_pos e3]⟩
          · cases h
        · cases h
      · cases h
    · cases h
  · cases h
theorem r_load {T : TypeId} {y : Operand} (ho : o.op = .load T y) (ha : Agr o s t) (hl : ∀ n ∈ s.opNms o, look t.ob n = look s.ob n) (h : step E s o = some (s, out)) : Reads E o s t out := by
  have hy : y ∈ o.op.operands.toList := by simp [ho, Op.operands]
  have h2 : t.opnd y = s.opnd y := ha.op y hy
  simp only [step, ho] at h
  split at h
  · cases h
  · rename_i ag n e1
    split at h
    · rename_i b off e4
      have h5 := hl b (opNms_mem hy e4 (by simp [Slot.nms, Lf.nms]))
      split at h
      · rename_i U c e5
        split at h
        · rename_i z e6
          cases h
          exact .inl ⟨_, _, rfl, by simp only [step, ho, h2, e1, e4, h5, e5, e6]⟩
        · cases h
      · cases h
    · rename_i l e4
      split at h
      · rename_i z e6
        cases h
        exact .inl ⟨_, _, rfl, by simp only [step, ho, h2, e1, e4, e6]⟩
      · cases h
    · rename_i r i off e4
      have h5 := hl r (opNms_mem hy e4 (by simp [Slot.nms]))
      split at h
      · rename_i e ty xs e5
        split at h
        · rename_i z e6
          cases h
          exact .inl ⟨_, _, rfl, by simp only [step, ho, h2, e1, e4, h5, e5, e6]⟩
        · cases h
      · cases h
    · cases h
theorem r_indexAddr {T : TypeId} {y z : Operand} (ho : o.op = .indexAddr T y z) (ha : Agr o s t) (hl : ∀ n ∈ s.opNms o, look t.ob n = look s.ob n) (h : step E s o = some (s, out)) : Reads E o s t out := by
  have hy : y ∈ o.op.operands.toList := by simp [ho, Op.operands]
  have h2 : t.opnd y = s.opnd y := ha.op y hy
  have h3 : t.opnd z = s.opnd z := ha.op z (by simp [ho, Op.operands])
  simp only [step, ho] at h
  split at h
  · rename_i e ty c ci e1 e2 e3
    have hc : c.list t.ob e ty = c.list s.ob e ty := list_congr fun n hn => hl n (opNms_mem hy e2 hn)
    split at h
    · rename_i xs k n e4 e5
      cases c with
      | o r => cases h; exact .inl ⟨_, _, rfl, by simp only [step, ho, h2, h3, e1, e2, e3, e5, hc, e4]⟩
      | ot r j z' => cases h; exact .inl ⟨_, _, rfl, by simp only [step, ho, h2, h3, e1, e2, e3, e5, hc, e4]⟩
      | v ty x => cases h; exact .inl ⟨_, _, rfl, by simp only [step, ho, h2, h3, e1, e2, e3, e5, hc, e4]⟩
      | _ => cases h
    · cases h
  · cases h
theorem r_convert {a b : TypeId} {y : Operand} (ho : o.op = .convert a b y) (ha : Agr o s t) (hl : ∀ n ∈ s.opNms o, look t.ob n = look s.ob n) (h : step E s o = some (s, out)) : Reads E o s t out := by
  have hy : y ∈ o.op.operands.toList := by simp [ho, Op.operands]
  have h2 : t.opnd y = s.opnd y := ha.op y hy
  simp only [step, ho] at h
  split at h
  · rename_i k n ty k' e1 e2 e3
    cases h
    exact .inl ⟨_, _, rfl, by simp only [step, ho, h2, e1, e2, e3]⟩
  · rename_i c e e1 e2 e3
    have hc : c.list t.ob e (.int .u8) = c.list s.ob e (.int .u8) := list_congr fun n hn => hl n (opNms_mem hy e1 hn)
    split at h
    · rename_i xs e4
      cases h
      exact .inl ⟨_, _, rfl, by simp only [step, ho, h2, hc, e1, e2, e3, e4]⟩
    · cases h
  · rename_i z ty e e1 e2 e3
    cases h
    exact .inl ⟨_, _, rfl, by simp only [step, ho, h2, e1, e2, e3]⟩
  · rename_i r e1' e2' e1 e2 e3
    split at h
    · split at h
      · rename_i e ty xs e4
        have hf : s.frz r = s := congrArg Prod.fst (Option.some.inj h)
        exact absurd e4 (((frz_len r).2 (by rw [hf])).2 _ _ _)
      · cases h
    · cases h
  · cases h
theorem r_slice {T : TypeId} {y : Operand} {lo hi mx : Option Operand} (ho : o.op = .slice T y lo hi mx) (ha : Agr o s t) (hl : ∀ n ∈ s.opNms o, look t.ob n = look s.ob n) (h : step E s o = some (s, out)) : Reads E o s t out := by
  cases mx with
  | some m => simp only [step, ho] at h; cases h
  | none =>
    have hy : y ∈ o.op.operands.toList := by simp [ho, Op.operands]
    have h2 : t.opnd y = s.opnd y := ha.op y hy
    have h3 : optInt t lo = optInt s lo := optInt_congr fun z hz => ha.op z (by cases hz; simp [ho, Op.operands])
    have h4 : optInt t hi = optInt s hi := optInt_congr fun z hz => ha.op z (by cases hz; simp [ho, Op.operands])
    simp only [step, ho] at h
    split at h
    · rename_i z l h' e1 e2 e3
      split at h
      · rename_i e4
        cases h
        exact .inl ⟨_, _, rfl, by simp only [step, ho, h2, h3, h4, e1, e2, e3, if_pos e4]⟩
      · cases h
    · rename_i c l h' hx e1 e2 e3
      split at h
      · rename_i e ty e4
        have hc : c.list t.ob e ty = c.list s.ob e ty := list_congr fun n hn => hl n (opNms_mem hy e1 hn)
        split at h
        · rename_i xs e5
          rcases hp : sliceRow e ty xs l h' with ⟨g, y'⟩
          rw [hp] at h
          cases c with
          | o r =>
            cases l <;> cases h'
            case none.some => cases h; exact .inl ⟨_, _, rfl, by simp only [step, ho, h2, h3, h4, e1, e2, e3, e4, hc, e5, hp]⟩
            case some.none => cases h; exact .inl ⟨_, _, rfl, by simp only [step, ho, h2, h3, h4, e1, e2, e3, e4, hc, e5, hp]⟩
            all_goals
              have hf : s.frz r = s := congrArg Prod.fst (Option.some.inj h)
              exact absurd (rowAt_ok e5) (((frz_len r).2 (by rw [hf])).2 _ _ _)
          | v ty' x =>
            cases ty' with
            | str => exact absurd rfl (hx x)
            | _ => cases h; exact .inl ⟨_, _, rfl, by simp only [step, ho, h2, h3, h4, e1, e2, e3, e4, hc, e5, hp]⟩
          | nl => cases h; exact .inl ⟨_, _, rfl, by simp only [step, ho, h2, h3, h4, e1, e2, e3, e4, hc, e5, hp]⟩
          | _ => cases h
        · cases h
      · cases h
    · cases h
theorem r_lit (hr : E.litO o = true) (ha : Agr o s t) (h : step E s o = some (s, out)) : Reads E o s t out := by
  cases ho : o.op with
  | buildSlice T m ps =>
    have h2 : ∀ p ∈ ps.toList, t.opnd p.2 = s.opnd p.2 := fun p hp => ha.op p.2 (by
      simp only [ho, Op.operands, List.toList_toArray]
      exact List.mem_map.2 ⟨p, hp, rfl⟩)
    simp only [step, ho, if_pos hr] at h
    split at h
    · rename_i e ty e1
      split at h
      · rename_i xs e2
        split at h
        · rename_i e3
          cases h
          exact .inl ⟨_, _, rfl, by simp only [step, ho, if_pos hr, e1, partsL_congr h2, e2, if_pos e3]⟩
        · cases h
      · cases h
    · cases h
  | _ => simp only [Env.litO, ho] at hr; cases hr
theorem r_step (hr' : (rOp o.op || E.litO o) = true) (ha : Agr o s t) (hl : ∀ n ∈ s.opNms o, look t.ob n = look s.ob n) (h : step E s o = some (s, out)) : Reads E o s t out := by
  rcases (Bool.or_eq_true _ _).mp hr' with hr | hr
  case inr => exact r_lit hr ha h
  cases ho : o.op with
  | move y => exact r_move (.inl ho) ha h
  | assign y => exact r_move (.inr ho) ha h
  | pick c y z => exact r_pick ho ha h
  | binOp op T y z U => exact r_bin ho ha h
  | unOp op T y => exact r_un ho ha h
  | convert a b y => exact r_convert ho ha hl h
  | extract y i => exact r_extract ho ha h
  | field T y f => exact r_field ho ha h
  | build T ps => exact r_build ho ha h
  | fieldAddr T y f => exact r_fieldAddr ho ha hl h
  | load T y => exact r_load ho ha hl h
  | nilCheck y => exact r_nilCheck ho ha h
  | indexAddr T y z => exact r_indexAddr ho ha hl h
  | index T y z => exact r_index ho ha h
  | slice T y lo hi mx => exact r_slice ho ha hl h
  | makeFunc f l m => exact r_makeFunc ho ha h
  | makeInterface T y => exact r_makeInterface ho ha h
  | typeAssert y T U b => exact r_typeAssert ho ha h
  | call c =>
    rw [ho] at hr
    cases hb : c.callee with
    | builtin b =>
      simp only [rOp, hb] at hr
      cases b <;> first
        | (cases hr; done)
        | exact r_len ho hb ha hl h
        | exact r_minmax ho (.inl hb) ha h
        | exact r_minmax ho (.inr hb) ha h
    | _ => simp only [rOp, hb] at hr; cases hr
  | _ => rw [ho] at hr; cases hr
end
end Go.GV
