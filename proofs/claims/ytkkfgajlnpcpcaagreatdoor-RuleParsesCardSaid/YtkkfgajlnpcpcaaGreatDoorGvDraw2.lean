/-
GV: regions whose order is open: any order comes to the same. (This session's own text.)
-/
import Derived.Test.YtkkfgajlnpcpcaaGreatDoorGvDraw
set_option linter.unusedVariables false
set_option linter.unusedSimpArgs false
namespace Go.GV
section
variable {P : Program} {E : Env} {R : Type} {ev : Ev E} {inl : FuncId → List Slot → St → (Slot → List (Nat × Ob) → Option R) → Option R} {ops : Array Oper} {s t s1 s2 : St} {o : Oper}
theorem set_get (s : St) (i : Nat) (x : Slot) (h : s.get i = x) : s.set i x = s := by
  have : s.sl.set i x = s.sl := by
    subst h
    apply List.ext_getElem?
    intro j
    rw [List.getElem?_set]
    by_cases hij : i = j
    · subst hij
      rw [if_pos rfl]
      by_cases hl : i < s.sl.length
      · rw [if_pos hl]
        simp [St.get, hl]
      · rw [if_neg hl, List.getElem?_eq_none (by omega)]
    · rw [if_neg hij]
  unfold St.set
  rw [this]
theorem get_setd {d : Option Nat} {x : Slot} {j : Nat} (h : ∀ i, d = some i → i ≠ j) : (s.setd d x).get j = s.get j := by
  cases d with
  | none => rfl
  | some i =>
    simp only [St.setd, St.set, St.get, List.getD_eq_getElem?_getD]
    rw [List.getElem?_set_ne (h i rfl)]
theorem setd_comm {d e : Option Nat} {x y : Slot} (h : ∀ i, d = some i → e ≠ some i) : (s.setd d x).setd e y = (s.setd e y).setd d x := by
  cases d with
  | none => rfl
  | some i =>
    cases e with
    | none => rfl
    | some j =>
      have : i ≠ j := fun e => h i rfl (by rw [e])
      simp only [St.setd, St.set]
      rw [List.set_comm _ _ this]
theorem setd_b (d : Option Nat) (x : Slot) : (s.setd d x).b = s.b := (setd_ob s d x).2
theorem setd_withOb {d : Option Nat} {x : Slot} {ob : List (Nat × Ob)} : (s.withOb ob).setd d x = (s.setd d x).withOb ob := by cases d <;> rfl
theorem any_set {f : Slot → Bool} : ∀ {l : List Slot} {i : Nat} {x : Slot}, f x = false → f (l.getD i (.lf .u)) = false → (l.set i x).any f = l.any f
  | [], _, _, _, _ => rfl
  | y :: l, 0, x, hx, hy => by simp at hy; simp [hx, hy]
  | y :: l, i + 1, x, hx, hy => by simp only [List.set_cons_succ, List.any_cons]; rw [any_set hx (by simpa using hy)]
theorem any_setd {d : Option Nat} {x : Slot} {n : Nat} (hx : n ∉ x.nms) (ho : n ∉ s.oldNms d) : (s.setd d x).sl.any (Slot.names n) = s.sl.any (Slot.names n) := by
  cases d with
  | none => rfl
  | some i => exact any_set (slot_names_f hx) (slot_names_f ho)
/-- What must be the same for an operation to come to the same. -/
structure Sees (ops : Array Oper) (o : Oper) (s t : St) : Prop where
  b : t.b = s.b
  get : ∀ j ∈ o.looksAt ops, t.get j = s.get j
theorem Sees.trans (h : Sees ops o s s1) (h' : Sees ops o s1 s2) : Sees ops o s s2 := ⟨h'.b.trans h.b, fun j hj => (h'.get j hj).trans (h.get j hj)⟩
theorem Sees.agr (h : Sees ops o s t) : Agr o s t := ⟨h.b, fun y hy => by
  cases y with
  | tmp j => exact congrArg some (h.get j (List.mem_append_left _ (List.mem_filterMap.2 ⟨.tmp j, hy, rfl⟩)))
  | _ => rfl⟩
theorem Sees.setd {d : Option Nat} {x : Slot} (h : ∀ i, d = some i → i ∉ o.looksAt ops) : Sees ops o s (s.setd d x) := ⟨setd_b d x, fun j hj => get_setd fun i hi => fun e => h i hi (e ▸ hj)⟩
theorem Sees.setd' {d : Option Nat} {x : Slot} (h : ∀ i, d = some i → i ∉ o.looksAt ops) : Sees ops o (s.setd d x) s := ⟨(setd_b d x).symm, fun j hj => (get_setd fun i hi => fun e => h i hi (e ▸ hj)).symm⟩
theorem Sees.withOb {ob : List (Nat × Ob)} : Sees ops o s (s.withOb ob) := ⟨rfl, fun _ _ => rfl⟩
/-- One operation takes s to s'. -/
def To (ev : Ev E) (inl : FuncId → List Slot → St → (Slot → List (Nat × Ob) → Option R) → Option R) (ops : Array Oper) (o : Oper) (s s' : St) : Prop := ∀ K : St → Option R, opsK E ev inl ops [o] s K = K s'
/-- It does so by what it sees alone. -/
def Tr (ev : Ev E) (inl : FuncId → List Slot → St → (Slot → List (Nat × Ob) → Option R) → Option R) (ops : Array Oper) (o : Oper) (e : Ent) (s s' : St) : Prop :=
  if e.w = true then
    ∃ x ob, s' = (s.withOb ob).setd o.dst x ∧ (∀ n, n ∉ e.nm → look ob n = look s.ob n) ∧
      ∀ t, Sees ops o s t → t.ob = s.ob → (∀ n ∈ e.mn, t.sl.any (Slot.names n) = s.sl.any (Slot.names n)) → To ev inl ops o t ((t.withOb ob).setd o.dst x)
  else
    ∃ x, s' = s.setd o.dst x ∧ (∀ n ∈ s.oldNms o.dst, n ∈ e.mn) ∧ (∀ n ∈ x.nms, n ∈ e.mn) ∧
      ∀ t, Sees ops o s t → (∀ n ∈ e.nm, look t.ob n = look s.ob n) → To ev inl ops o t (t.setd o.dst x)
theorem Tr.to {e : Ent} {s' : St} (h : Tr ev inl ops o e s s') : To ev inl ops o s s' := by
  unfold Tr at h
  split at h
  · obtain ⟨x, ob, rfl, _, h⟩ := h
    exact h s ⟨rfl, fun _ _ => rfl⟩ rfl fun _ _ => rfl
  · obtain ⟨x, rfl, _, _, h⟩ := h
    exact h s ⟨rfl, fun _ _ => rfl⟩ fun _ _ => rfl
theorem guards_all : ∀ {g : List Bool} {x : Option R}, g.all id = true → guards g x = x
  | [], _, _ => rfl
  | b :: l, x, h => by
    simp only [List.all_cons, Bool.and_eq_true, id] at h
    obtain ⟨h1, h2⟩ := h
    subst h1
    exact guards_all (g := l) h2
/-- The same for the operation without its guard. -/
def TrS (ev : Ev E) (inl : FuncId → List Slot → St → (Slot → List (Nat × Ob) → Option R) → Option R) (ops : Array Oper) (o : Oper) (e : Ent) (s s' : St) : Prop :=
  if e.w = true then
    ∃ x ob, s' = (s.withOb ob).setd o.dst x ∧ (∀ n, n ∉ e.nm → look ob n = look s.ob n) ∧
      ∀ t, Sees ops o s t → t.ob = s.ob → (∀ n ∈ e.mn, t.sl.any (Slot.names n) = s.sl.any (Slot.names n)) → ∀ K : St → Option R, stepK E ev inl t o K = K ((t.withOb ob).setd o.dst x)
  else
    ∃ x, s' = s.setd o.dst x ∧ (∀ n ∈ s.oldNms o.dst, n ∈ e.mn) ∧ (∀ n ∈ x.nms, n ∈ e.mn) ∧
      ∀ t, Sees ops o s t → (∀ n ∈ e.nm, look t.ob n = look s.ob n) → ∀ K : St → Option R, stepK E ev inl t o K = K (t.setd o.dst x)
theorem beq_self (n : Nat) : Nat.beq n n = true := beqt.2 rfl
/-- What looks at slots alone. -/
theorem r_slot {out : Out E} (hso : slotOp o.op = true) (ha : Agr o s t) (h : step E s o = some (s, out)) : Reads E o s t out := by
  cases ho : o.op with
  | move y => exact r_move (.inl ho) ha h
  | assign y => exact r_move (.inr ho) ha h
  | pick c y z => exact r_pick ho ha h
  | _ => rw [ho] at hso; cases hso
theorem stepE_tr (hinl : E.inl = []) {K : St → Ent → Option R} {r : R} (h : stepE E ev s o K = some r) : ∃ s' e, TrS ev inl ops o e s s' ∧ K s' e = some r := by
  unfold stepE at h
  split at h
  · rename_i s1 out hs
    split at h
    · rename_i hb
      cases out with
      | go g x ob =>
        dsimp only at h
        split at h
        · rename_i hl
          obtain ⟨hg, hk⟩ := guards_some h
          have e1 := step_same hs hl
          subst e1
          cases hr : (rOp o.op || E.litO o) with
          | true =>
            rw [hr, if_pos rfl] at hk
            have hob : ob = s1.ob := by
              rcases r_step hr ⟨rfl, fun _ _ => rfl⟩ (fun _ _ => rfl) hs with ⟨g', x', e, _⟩ | ⟨c, y, z, e, _⟩
              · cases e; rfl
              · cases e
            subst hob
            refine ⟨_, _, ?_, hk⟩
            unfold TrS
            rw [if_neg (by simp)]
            refine ⟨x, rfl, fun n hn => by simp [hn], fun n hn => by simp [hn], fun t ht hl' K' => ?_⟩
            have hrs : Reads E o s1 t (.go g x s1.ob) := by
              cases hso : slotOp o.op with
              | true => exact r_slot hso ht.agr hs
              | false =>
                rw [hso, if_neg (by simp)] at hl'
                exact r_step hr ht.agr hl' hs
            rcases hrs with ⟨g', x', e, hst⟩ | ⟨c, y, z, e, _⟩
            · cases e
              simp only [stepK, hst, beq_self, if_true, Out.cps]
              exact guards_all hg
            · cases e
          | false =>
            rw [hr, if_neg (by simp)] at hk
            have hw := fun t (ht : Agr o s1 t) hob hf => w_step hr ht hob hf hinl hs
            refine ⟨_, _, ?_, hk⟩
            unfold TrS
            rw [if_pos rfl]
            refine ⟨x, ob, rfl, fun n hn => ?_, fun t ht hob hf K' => ?_⟩
            · obtain ⟨g', x', ob', e, _, h2⟩ := hw s1 ⟨rfl, fun _ _ => rfl⟩ rfl rfl
              cases e
              simp only [List.mem_append, not_or] at hn
              refine h2 n hn.1 ?_
              rintro rfl
              exact hn.2 (by simp [from_])
            · have hfr : t.fresh (s1.id o.dst) = s1.fresh (s1.id o.dst) := by
                unfold St.fresh
                rw [hob, hf (s1.id o.dst) (by simp [from_])]
              obtain ⟨g', x', ob', e, hst, _⟩ := hw t ht.agr hob hfr
              cases e
              simp only [stepK, hst, beq_self, if_true, Out.cps]
              exact guards_all hg
        · cases h
      | br c x y =>
        dsimp only at h
        have hpk : rOp o.op = true := by
          rcases step_cases hs with ⟨g, x, ob, e⟩ | ⟨c', y', z, e⟩ | ⟨c', y', e, e2⟩
          · cases e
          · rw [e]; rfl
          · exfalso
            cases y' with
            | func f =>
              simp only [step, e, e2] at hs
              obtain ⟨_, _, _, _, e⟩ := callOut_go hinl hs
              rcases e with e | e <;> cases e
            | global g => simp only [step, e, e2, St.opnd] at hs; cases hs
            | _ =>
              simp only [step, e, e2] at hs
              split at hs
              · split at hs
                · obtain ⟨_, _, _, _, e⟩ := callOut_go hinl hs
                  rcases e with e | e <;> cases e
                · cases hs
              · cases hs
        have hpk2 : slotOp o.op = true := by
          rcases step_cases hs with ⟨g, x, ob, e⟩ | ⟨c', y', z, e⟩ | ⟨c', y', e, e2⟩
          · cases e
          · rw [e]; rfl
          · rw [e] at hpk
            simp only [rOp, e2] at hpk
            cases hpk
        have e1 : s1 = s := by
          rcases step_cases hs with ⟨g, x, ob, e⟩ | ⟨c', y', z, e⟩ | ⟨c', y', e, e2⟩
          · cases e
          · simp only [step, e] at hs
            split at hs <;> cases hs
            rfl
          · rw [e] at hpk
            simp only [rOp, e2] at hpk
            cases hpk
        subst e1
        cases c with
        | true =>
          refine ⟨_, _, ?_, h⟩
          unfold TrS
          rw [if_neg (by simp)]
          refine ⟨x, rfl, fun n hn => by simp [hn], fun n hn => by simp [hn], fun t ht hl' K' => ?_⟩
          rcases r_slot hpk2 ht.agr hs with ⟨g', x', e, hst⟩ | ⟨c, y', z', e, hst⟩
          · cases e
          · cases e
            simp only [stepK, hst, beq_self, if_true, Out.cps, cond_true]
        | false =>
          refine ⟨_, _, ?_, h⟩
          unfold TrS
          rw [if_neg (by simp)]
          refine ⟨y, rfl, fun n hn => by simp [hn], fun n hn => by simp [hn], fun t ht hl' K' => ?_⟩
          rcases r_slot hpk2 ht.agr hs with ⟨g', x', e, hst⟩ | ⟨c, y', z', e, hst⟩
          · cases e
          · cases e
            simp only [stepK, hst, beq_self, if_true, Out.cps, cond_false]
      | call f x k =>
        dsimp only at h
        split at h
        · rename_i hok
          rw [Option.bind_eq_some_iff] at h
          obtain ⟨r', hr', h⟩ := h
          split at h
          · rename_i y l hk
            split at h
            · rename_i hc
              simp only [Bool.and_eq_true] at hc
              obtain ⟨⟨hc1, hc2⟩, hc3⟩ := hc
              have e1 := isNil_eq hc1
              subst e1
              obtain ⟨e2, _⟩ := r_call (t := s) hinl ⟨rfl, fun _ _ => rfl⟩ (fun _ _ => rfl) hc3 hs hc2 hk
              subst e2
              refine ⟨_, _, ?_, h⟩
              unfold TrS
              rw [if_neg (by simp)]
              refine ⟨y, rfl, fun n hn => by simp [hn], fun n hn => by simp [hn], fun t ht hl' K' => ?_⟩
              obtain ⟨_, k', hst, hk'⟩ := r_call hinl ht.agr hl' hc3 hs hc2 hk
              simp only [stepK, hst, beq_self, if_true, Out.cps, hr', Option.bind_some, hk']
              rfl
            · refine ⟨_, _, ?_, h⟩
              unfold TrS
              rw [if_pos rfl]
              obtain ⟨_, e2, htouch⟩ := w_call (t := s) hinl ⟨rfl, fun _ _ => rfl⟩ rfl hok hs hk fun _ _ => rfl
              refine ⟨y, putAll s1.ob l, ?_, fun n hn => ?_, fun t ht hob hf K' => ?_⟩
              · conv => lhs; rw [e2]
                rfl
              · simp only [List.mem_append, not_or] at hn
                exact htouch n hn.1.1.2 hn.1.2
              · obtain ⟨⟨k', hst, hk'⟩, _⟩ := w_call hinl ht.agr hob hok hs hk fun n hn => hf n (by
                  exact hn)
                simp only [stepK, hst, St.withOb, beq_self, if_true, Out.cps, hr', Option.bind_some, hk']
          · cases h
        · cases h
      | callN f x k q => cases h
      | inl f x => cases h
    · cases h
  · cases h
theorem TrS.tr {e : Ent} {s' : St} (h : TrS ev inl ops o e s s') (hto : ∀ t, Sees ops o s t → ∀ s', (∀ K : St → Option R, stepK E ev inl t o K = K s') → To ev inl ops o t s') : Tr ev inl ops o e s s' := by
  unfold TrS at h
  unfold Tr
  split at h
  · rename_i hw
    rw [if_pos hw]
    obtain ⟨x, ob, e, h1, h2⟩ := h
    exact ⟨x, ob, e, h1, fun t ht hob hf => hto t ht _ (h2 t ht hob hf)⟩
  · rename_i hw
    rw [if_neg hw]
    obtain ⟨x, e, h0, h1, h2⟩ := h
    exact ⟨x, e, h0, h1, fun t ht hob => hto t ht _ (h2 t ht hob)⟩
theorem opE_tr (hinl : E.inl = []) {K : St → Ent → Option R} {r : R} (h : opE E ev ops o s K = some r) : ∃ s' e, Tr ev inl ops o e s s' ∧ K s' e = some r := by
  unfold opE at h
  split at h
  · rename_i hg
    obtain ⟨s', e, h1, h2⟩ := stepE_tr (inl := inl) (ops := ops) hinl h
    refine ⟨s', e, h1.tr fun t _ s' hK K' => ?_, h2⟩
    simp only [opsK, hg]
    exact hK K'
  · rename_i j want hg
    split at h
    · rename_i g hgt
      have hlook : g ∈ o.looksAt ops := by
        unfold Oper.looksAt
        refine List.mem_append_right _ ?_
        rw [hg]
        simp [hgt]
      have skip : ∀ {s' : St}, s' = s.setd o.dst (.lf .un) → K s' ⟨false, [], s.oldNms o.dst⟩ = some r → (∀ t, t.get g = s.get g → ∀ K' : St → Option R, opsK E ev inl ops [o] t K' = K' (t.setd o.dst (.lf .un))) →
          ∃ s' e, Tr ev inl ops o e s s' ∧ K s' e = some r := by
        intro s' e1 h1 h2
        refine ⟨s', _, ?_, h1⟩
        unfold Tr
        rw [if_neg (by simp)]
        exact ⟨.lf .un, e1, fun n hn => hn, fun n hn => by simp [Slot.nms, Lf.nms] at hn, fun t ht _ K' => h2 t (ht.get g hlook) K'⟩
      split at h
      · rename_i hsl
        refine skip rfl h fun t ht K' => ?_
        simp only [opsK, hg, hgt, ht, hsl]
      · rename_i c hsl
        have hset : ∀ t : St, t.get g = .lf (.v .bool c) → t.set g (.lf (.v .bool c)) = t := fun t ht => set_get t g _ ht
        have doit : ∀ {want' : Bool}, want = want' → (c : Bool) = want' → stepE E ev s o K = some r → ∃ s' e, Tr ev inl ops o e s s' ∧ K s' e = some r := by
          intro want' e1 e2 h1
          obtain ⟨s', e, h3, h4⟩ := stepE_tr (inl := inl) (ops := ops) hinl h1
          refine ⟨s', e, h3.tr fun t ht s' hK K' => ?_, h4⟩
          have ht' := (ht.get g hlook).trans hsl
          simp only [opsK, hg, hgt, ht']
          subst e1
          cases c with
          | true => cases want with
            | true => simp only [cond_true]; rw [hset t ht']; exact hK K'
            | false => cases e2
          | false => cases want with
            | true => cases e2
            | false => simp only [cond_false]; rw [hset t ht']; exact hK K'
        cases c with
        | true =>
          cases want with
          | true => simp only [cond_true] at h; rw [hset s hsl] at h; exact doit rfl rfl h
          | false =>
            simp only [cond_true, cond_false] at h
            rw [hset s hsl] at h
            refine skip rfl h fun t ht K' => ?_
            have ht' := ht.trans hsl
            simp only [opsK, hg, hgt, ht', cond_true, cond_false]
            rw [hset t ht']
        | false =>
          cases want with
          | true =>
            simp only [cond_true, cond_false] at h
            rw [hset s hsl] at h
            refine skip rfl h fun t ht K' => ?_
            have ht' := ht.trans hsl
            simp only [opsK, hg, hgt, ht', cond_true, cond_false]
            rw [hset t ht']
          | false => simp only [cond_false] at h; rw [hset s hsl] at h; exact doit rfl rfl h
      · cases h
    · cases h
end
end Go.GV
