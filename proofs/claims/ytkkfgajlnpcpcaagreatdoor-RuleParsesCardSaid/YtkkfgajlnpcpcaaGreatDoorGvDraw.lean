/-
GV: regions whose order is open. (This session's own text.)
-/
import Derived.Test.YtkkfgajlnpcpcaaGreatDoorGvLoc4
set_option linter.unusedVariables false
set_option linter.unusedSimpArgs false
namespace Go.GV
section
variable {E : Env} {s t s1 : St} {o : Oper} {out : Out E}
theorem frzAll_one (s : St) (r : Nat) : s.frz r = s.frzAll [.o r] := rfl
theorem step_frz {g : List Bool} {x : Slot} {ob : List (Nat × Ob)} (h : step E s o = some (s1, .go g x ob)) : ∃ l, s1 = s.frzAll l := by
  cases ho : o.op with
  | slice T y lo hi mx =>
    cases mx with
    | some m => simp only [step, ho] at h; cases h
    | none =>
      simp only [step, ho] at h
      (repeat' (split at h)) <;> first | (cases h; done) | (cases h; exact ⟨[], rfl⟩) | (cases h; exact ⟨_, frzAll_one _ _⟩)
  | convert a b y =>
    simp only [step, ho] at h
    (repeat' (split at h)) <;> first | (cases h; done) | (cases h; exact ⟨[], rfl⟩) | (cases h; exact ⟨_, frzAll_one _ _⟩)
  | buildSlice T n ps =>
    simp only [step, ho] at h
    split at h
    · (repeat' (split at h)) <;> first | (cases h; done) | (cases h; exact ⟨[], rfl⟩)
    · (repeat' (split at h)) <;> first | (cases h; done) | (cases h; exact ⟨_, rfl⟩)
  | call c =>
    cases hb : c.callee with
    | value y =>
      cases y with
      | func f =>
        simp only [step, ho, hb] at h
        unfold callOut at h
        (repeat' (split at h)) <;> cases h
      | global g => simp only [step, ho, hb, St.opnd] at h; cases h
      | _ =>
        simp only [step, ho, hb] at h
        split at h
        · split at h
          · unfold callOut at h
            (repeat' (split at h)) <;> cases h
          · cases h
        · cases h
    | invoke r m => simp only [step, ho, hb] at h; cases h
    | builtin b =>
      cases b <;> first
        | (simp only [step, ho, hb] at h; cases h; done)
        | (simp only [step, ho, hb, appd] at h; (repeat' (split at h)) <;> first | (cases h; done) | (cases h; exact ⟨[], rfl⟩))
  | typeAssert y T U b =>
    cases b <;> simp only [step, ho] at h <;> (repeat' (split at h)) <;> first | (cases h; done) | (cases h; exact ⟨[], rfl⟩)
  | makeFunc f l m =>
    cases f <;> simp only [step, ho] at h <;> (repeat' (split at h)) <;> first | (cases h; done) | (cases h; exact ⟨[], rfl⟩)
  | _ =>
    simp only [step, ho] at h
    first
      | (cases h; done)
      | (cases h; exact ⟨[], rfl⟩)
      | ((repeat' (split at h)) <;> first | (cases h; done) | (cases h; exact ⟨[], rfl⟩))
theorem step_same {g : List Bool} {x : Slot} {ob : List (Nat × Ob)} (h : step E s o = some (s1, .go g x ob)) (hl : sameLen s1.ob s.ob = true) : s1 = s := by
  obtain ⟨l, rfl⟩ := step_frz h
  exact ((frzAll_len l s).2 (sameLen_eq hl)).1
theorem step_value {key : Nat} {x : (E.argT key).D} {k : (E.resT key).D → Option (Slot × List (Nat × Ob))} (h : step E s o = some (s1, .call key x k)) :
    ∃ c f caps, o.op = .call c ∧ (∀ y ∈ c.args.toList, y ∈ o.op.operands.toList) ∧ callOut E s o.dst f c.args.toList caps = some (s1, .call key x k) ∧ (∀ as0, s.cellsOf c.args.toList = some as0 → s.callee o = some (f, as0 ++ caps)) ∧
      (∀ t, Agr o s t → step E t o = callOut E t o.dst f c.args.toList caps) ∧ ∀ y ∈ caps, ∀ n ∈ y.nms, n ∈ s.opNms o := by
  cases ho : o.op with
  | call c =>
    have hargs : ∀ y ∈ c.args.toList, y ∈ o.op.operands.toList := fun y hy => by simp only [ho, Op.operands, Call.operands, Array.toList_append]; exact List.mem_append_right _ hy
    cases hb : c.callee with
    | value y =>
      have hy : y ∈ o.op.operands.toList := by simp [ho, Op.operands, Call.operands, hb]
      cases y with
      | func f =>
        simp only [step, ho, hb] at h
        refine ⟨c, f, [], rfl, ho ▸ hargs, h, fun as0 has => by simp only [St.callee, ho, hb, has, List.append_nil], fun t _ => by simp only [step, ho, hb], fun y hy => by cases hy⟩
      | global g => simp only [step, ho, hb, St.opnd] at h; cases h
      | tmp i =>
        simp only [step, ho, hb] at h
        split at h
        · rename_i f cs e1
          split at h
          · rename_i hfb
            refine ⟨c, f, cs.map fun b => .lf (.p b 0), rfl, ho ▸ hargs, h, fun as0 has => by simp only [St.callee, ho, hb, has, e1], fun t ha => by simp only [step, ho, hb, ha.op _ hy, e1, if_pos hfb], fun y hy2 n hn => ?_⟩
            obtain ⟨b, hbm, rfl⟩ := List.mem_map.1 hy2
            simp only [Slot.nms, Lf.nms, List.mem_singleton] at hn
            subst hn
            exact opNms_mem hy e1 hbm
          · cases h
        · cases h
      | const v =>
        simp only [step, ho, hb] at h
        split at h
        · rename_i f cs e1
          split at h
          · rename_i hfb
            refine ⟨c, f, cs.map fun b => .lf (.p b 0), rfl, ho ▸ hargs, h, fun as0 has => by simp only [St.callee, ho, hb, has, e1], fun t ha => by simp only [step, ho, hb, ha.op _ hy, e1, if_pos hfb], fun y hy2 n hn => ?_⟩
            obtain ⟨b, hbm, rfl⟩ := List.mem_map.1 hy2
            simp only [Slot.nms, Lf.nms, List.mem_singleton] at hn
            subst hn
            exact opNms_mem hy e1 hbm
          · cases h
        · cases h
    | invoke r m => simp only [step, ho, hb] at h; cases h
    | builtin b =>
      exfalso
      rcases step_cases h with ⟨g, x, ob, e⟩ | ⟨c', y, z, e⟩ | ⟨c', y, e, e2⟩
      · cases e
      · rw [ho] at e; cases e
      · rw [ho] at e; cases e; rw [hb] at e2; cases e2
  | _ =>
    exfalso
    rcases step_cases h with ⟨g, x, ob, e⟩ | ⟨c', y, z, e⟩ | ⟨c', y, e, e2⟩
    · cases e
    · simp only [step, e] at h
      split at h <;> cases h
    · rw [ho] at e; cases e
theorem callOK_spec {r : Bool} {f : FuncId} {as : List Slot} (h : callOK E s o r = true) (hc : s.callee o = some (f, as)) : ∀ x ∈ E.fn, x.2.fid = f →
    (isNil (rowNames (x.2.par.valsA s.ob as)) || !(x.2.res.vr || x.2.par.inout.vr)) = true ∧ (r = true → x.2.par.cnt = 0) := by
  intro x hx hf
  unfold callOK at h
  rw [hc] at h
  have := List.all_eq_true.1 h x hx
  simp only [Bool.or_eq_true, Bool.and_eq_true, Bool.not_eq_true'] at this
  rcases this with this | ⟨h1, h2⟩
  · exact absurd (beqt.2 hf) (by rw [this]; decide)
  · refine ⟨by simpa using h1, fun hr => ?_⟩
    rcases h2 with h2 | h2
    · rw [hr] at h2; cases h2
    · exact beqt.1 h2
theorem look_putAll_out {n : Nat} : ∀ {l ob : List (Nat × Ob)}, n ∉ l.map (·.1) → look (putAll ob l) n = look ob n
  | [], _, _ => rfl
  | (k, b) :: l, ob, h => by
    simp only [List.map_cons, List.mem_cons, not_or] at h
    simp only [putAll]
    rw [look_putAll_out h.2, look_put, if_neg (Ne.symm h.1)]
theorem keysGone_spec {ob : List (Nat × Ob)} {ns : List Nat} {n : Nat} (h : n ∉ keysGone ob (delAll ob ns)) : look (delAll ob ns) n = look ob n := by
  cases h1 : look ob n with
  | none =>
    cases h2 : look (delAll ob ns) n with
    | none => rfl
    | some b => rw [(look_delAll h2).2] at h1; cases h1
  | some b =>
    cases h2 : look (delAll ob ns) n with
    | some b' => rw [← h1, (look_delAll h2).2]
    | none =>
      refine absurd ?_ h
      unfold keysGone
      rw [List.mem_filter]
      exact ⟨List.mem_map.2 ⟨_, look_mem h1, rfl⟩, by rw [h2]⟩
theorem renewOK_congr {s t : St} : ∀ {bk : List Nat} {fl : List Bool}, (∀ i m : Nat, bk[i]? = some m → fl[i]? = some true → t.fresh (m + 1000000) = s.fresh (m + 1000000)) → renewOK t bk fl = renewOK s bk fl
  | m :: bk, true :: fl, h => by
    simp only [renewOK]
    rw [h 0 m rfl rfl, renewOK_congr (bk := bk) (fl := fl) fun i k h1 h2 => h (i + 1) k (by simpa using h1) (by simpa using h2)]
  | m :: bk, false :: fl, h => by
    simp only [renewOK]
    rw [renewOK_congr (bk := bk) (fl := fl) fun i k h1 h2 => h (i + 1) k (by simpa using h1) (by simpa using h2)]
  | [], _, _ => by simp [renewOK]
  | _ :: _, [], _ => by simp [renewOK]
theorem renew_mem : ∀ {bk : List Nat} {fl : List Bool} {i m : Nat}, bk[i]? = some m → fl[i]? = some true → (renew bk fl)[i]? = some (m + 1000000)
  | m :: bk, true :: fl, 0, k, h, _ => by simp at h; subst h; rfl
  | m :: bk, false :: fl, 0, k, _, h => by simp at h
  | m :: bk, b :: fl, i + 1, k, h1, h2 => by
    have := renew_mem (bk := bk) (fl := fl) (i := i) (m := k) (by simpa using h1) (by simpa using h2)
    cases b <;> simpa [renew] using this
  | [], _, _, _, h, _ => by simp at h
  | _ :: _, [], _, _, _, h => by simp at h
def resSlot : List (Bool × List Lf) → Slot
  | [] => .lf .u
  | [c] => slotOf c
  | cs => .tp cs
theorem backOf_inv {D : FnD} {s2 : St} {d : Nat} {rn : List Nat} {r : (D.res.T.app D.par.inout.T).D} {y : Slot} {l : List (Nat × Ob)} (h : backOf D s2 d rn r = some (y, l)) :
    ∃ c back rest cs new rest', D.par.inout.mk rn (D.res.T.snd D.par.inout.T r) = some (c, back, rest) ∧ D.res.mkA (from_ d 8) (D.res.T.fst D.par.inout.T r) = some (cs, new, rest') ∧
      (new.all fun y => s2.fresh y.1 && !(rn.any (Nat.beq y.1))) = true ∧ y = resSlot cs ∧ l = back ++ new := by
  unfold backOf at h
  split at h
  · cases h
  · rename_i c back rest h1
    split at h
    · cases h
    · rename_i cs new rest' h2
      split at h
      · rename_i h3
        cases h
        exact ⟨c, back, rest, cs, new, rest', h1, h2, h3, by cases cs with | nil => rfl | cons a l => cases l <;> rfl, rfl⟩
      · cases h
theorem backOf_mk {D : FnD} {s2 : St} {d : Nat} {rn : List Nat} {r : (D.res.T.app D.par.inout.T).D} {c : List Lf} {back : List (Nat × Ob)} {rest r2 : List Nat} {cs : List (Bool × List Lf)} {new : List (Nat × Ob)}
    (h1 : D.par.inout.mk rn (D.res.T.snd D.par.inout.T r) = some (c, back, rest)) (h2 : D.res.mkA (from_ d 8) (D.res.T.fst D.par.inout.T r) = some (cs, new, r2))
    (h3 : (new.all fun y => s2.fresh y.1 && !(rn.any (Nat.beq y.1))) = true) : backOf D s2 d rn r = some (resSlot cs, back ++ new) := by
  unfold backOf
  simp only [h1, h2, h3, if_true]
  cases cs with
  | nil => rfl
  | cons a l => cases l <;> rfl
theorem withOb_fresh {ob : List (Nat × Ob)} {n : Nat} (h : t.sl.any (Slot.names n) = s.sl.any (Slot.names n)) : (t.withOb ob).fresh n = (s.withOb ob).fresh n := by
  unfold St.fresh St.withOb
  simp only [h]
theorem w_call {key : Nat} {x : (E.argT key).D} {k : (E.resT key).D → Option (Slot × List (Nat × Ob))} (hinl : E.inl = []) (ha : Agr o s t) (hob : t.ob = s.ob) (hok : callOK E s o false = true) (h : step E s o = some (s1, .call key x k)) {r : (E.resT key).D} {y : Slot} {l : List (Nat × Ob)}
    (hk : k r = some (y, l)) (hsa : ∀ n, n ∈ l.map (·.1) ++ from_ (s.id o.dst) 8 → t.sl.any (Slot.names n) = s.sl.any (Slot.names n)) :
    (∃ k', step E t o = some (t.withOb s1.ob, .call key x k') ∧ k' r = some (y, l)) ∧ s1 = s.withOb s1.ob ∧ ∀ n, n ∉ keysGone s.ob s1.ob → n ∉ l.map (·.1) → look (putAll s1.ob l) n = look s.ob n := by
  obtain ⟨c, f, caps, ho, hargs, hco, hcal, hst, hcaps⟩ := step_value h
  obtain ⟨as0, key', D, x0, k0, hD, has, hfit, hf, hcd, hout⟩ := callOut_inv hinl hco
  by_cases hopt : D.opt = true
  · rw [if_pos hopt] at hout; cases hout
  rw [if_neg hopt] at hout
  cases hout
  obtain ⟨hnf, _⟩ := callOK_spec hok (hcal as0 has) (key, D) (look_mem hD) hf
  obtain ⟨ns, h1, h2, h3, h4, h5⟩ := callD_inv hnf has hcd
  subst h3
  subst h5
  simp only [cast_cast, cast_eq, backAny, if_neg hopt] at hk
  obtain ⟨cc, back, rest, cs, new, rest', b1, b2, b3, b4, b5⟩ := backOf_inv hk
  subst b5
  obtain ⟨q1, q2⟩ := mks_keys b1
  obtain ⟨q3, q4⟩ := mkA_keys b2
  have hid : t.id o.dst = s.id o.dst := ha.id
  have has' : t.cellsOf c.args.toList = some as0 := by rw [cellsOf_congr fun y hy => ha.op y (hargs y hy)]; exact has
  have hnf' : (isNil (rowNames (D.par.valsA t.ob (as0 ++ caps))) || !(D.res.vr || D.par.inout.vr)) = true := by rw [hob]; exact hnf
  have hfit' : fits t f (as0 ++ caps) E.fn = some key := by rw [fits_congr (s := s) fun x _ _ => by rw [hob]]; exact hfit
  have hren : ∀ i m : Nat, (D.par.keep ns)[i]? = some m → (D.par.inout.nest false)[i]? = some true → m + 1000000 ∈ back.map (·.1) := by
    intro i m g1 g2
    have g3 := renew_mem g1 g2
    rw [q1] at g3
    have hi : i < (back.map (·.1)).length := by
      rw [List.length_map, q2, ← nests_len _ false]
      exact (List.getElem?_eq_some_iff.1 g2).1
    rw [List.getElem?_append_left hi] at g3
    exact List.mem_of_getElem? g3
  refine ⟨⟨fun r => backAny D (t.withOb (delAll s.ob ns)) (t.id o.dst) (renew (D.par.keep ns) (D.par.inout.nest false)) (cast (by rw [Env.resT, hD]) r), ?_, ?_⟩, rfl, fun n hn hn2 => ?_⟩
  · rw [hst t ha]
    refine (callOut_mk (s := t) hinl hD has' hfit' hf ?_).trans (by rw [if_neg hopt])
    refine (callD_mk hnf' has' (ns := ns) ⟨by rw [hob]; exact h1, by rw [hob]; exact h2, by rw [hob]; rfl, ?_, rfl⟩)
    simp only [Bool.and_eq_true] at h4 ⊢
    obtain ⟨⟨g1, g2⟩, g3⟩ := h4
    refine ⟨⟨g1, ?_⟩, by rw [hob]; exact g3⟩
    rw [renewOK_congr (s := s.withOb (delAll s.ob ns))]
    · exact g2
    · intro i m e1 e2
      have := hren i m e1 e2
      refine withOb_fresh (hsa _ ?_)
      rw [List.map_append]
      exact List.mem_append_left _ (List.mem_append_left _ this)
  · simp only [cast_cast, cast_eq, backAny, if_neg hopt]
    rw [b4]
    refine backOf_mk b1 (by rw [hid]; exact b2) ?_
    rw [List.all_eq_true] at b3 ⊢
    intro z hz
    have := b3 z hz
    simp only [Bool.and_eq_true] at this ⊢
    refine ⟨?_, this.2⟩
    rw [withOb_fresh (hsa z.1 ?_)]
    · exact this.1
    · refine List.mem_append_right _ ?_
      rw [q3]
      exact List.mem_append_left _ (List.mem_map.2 ⟨z, hz, rfl⟩)
  · rw [look_putAll_out hn2]
    exact keysGone_spec hn
theorem r_call {key : Nat} {x : (E.argT key).D} {k : (E.resT key).D → Option (Slot × List (Nat × Ob))} (hinl : E.inl = []) (ha : Agr o s t) (hl : ∀ n ∈ s.opNms o, look t.ob n = look s.ob n) (hok : callOK E s o true = true) (h : step E s o = some (s1, .call key x k))
    (hlen : sameLen s1.ob s.ob = true) {r : (E.resT key).D} {y : Slot} (hk : k r = some (y, [])) : s1 = s ∧ ∃ k', step E t o = some (t, .call key x k') ∧ k' r = some (y, []) := by
  obtain ⟨c, f, caps, ho, hargs, hco, hcal, hst, hcaps⟩ := step_value h
  obtain ⟨as0, key', D, x0, k0, hD, has, hfit, hf, hcd, hout⟩ := callOut_inv hinl hco
  by_cases hopt : D.opt = true
  · rw [if_pos hopt] at hout; cases hout
  rw [if_neg hopt] at hout
  cases hout
  have hspec := callOK_spec hok (hcal as0 has)
  obtain ⟨hnf, hcnt⟩ := hspec (key, D) (look_mem hD) hf
  have hcnt := hcnt rfl
  obtain ⟨ns, h1, h2, h3, h4, h5⟩ := callD_inv hnf has hcd
  subst h3
  subst h5
  simp only [cast_cast, cast_eq, backAny, if_neg hopt] at hk
  obtain ⟨cc, back, rest, cs, new, rest', b1, b2, b3, b4, b5⟩ := backOf_inv hk
  have hnew : back = [] ∧ new = [] := by simpa using b5.symm
  have hnm : ∀ c ∈ as0 ++ caps, ∀ n ∈ c.nms, look t.ob n = look s.ob n := by
    intro c' hc' n hn
    refine hl n ?_
    rcases List.mem_append.1 hc' with hc' | hc'
    · have : ∀ {l : List Operand} {cs : List Slot}, s.cellsOf l = some cs → ∀ c ∈ cs, ∃ y ∈ l, s.opnd y = some c := by
        intro l
        induction l with
        | nil => intro cs h c hc; simp only [St.cellsOf] at h; cases h; cases hc
        | cons y l ih =>
          intro cs h c hc
          simp only [St.cellsOf] at h
          split at h
          · rename_i z hz
            split at h
            · rename_i r' hr
              cases h
              rcases List.mem_cons.1 hc with rfl | hc
              · exact ⟨y, List.mem_cons_self, hz⟩
              · obtain ⟨y', h1, h2⟩ := ih hr c hc
                exact ⟨y', List.mem_cons_of_mem _ h1, h2⟩
            · cases h
          · cases h
      obtain ⟨y', h1, h2⟩ := this has c' hc'
      exact opNms_mem (hargs y' h1) h2 hn
    · exact hcaps c' hc' n hn
  obtain ⟨htk, hns⟩ := takeA_congr (ob := s.ob) (ob' := t.ob) (s := D.par) (l := as0 ++ caps) hcnt hnm
  have hns0 := hns _ _ h1
  subst hns0
  have hvals : D.par.valsA t.ob (as0 ++ caps) = D.par.valsA s.ob (as0 ++ caps) := valsA_congr hcnt
  have hid : t.id o.dst = s.id o.dst := ha.id
  have has' : t.cellsOf c.args.toList = some as0 := by rw [cellsOf_congr fun y hy => ha.op y (hargs y hy)]; exact has
  have hnf' : (isNil (rowNames (D.par.valsA t.ob (as0 ++ caps))) || !(D.res.vr || D.par.inout.vr)) = true := by rw [hvals]; exact hnf
  have hfit' : fits t f (as0 ++ caps) E.fn = some key := by
    rw [fits_congr (s := s) fun x hx hfx => (takeA_congr ((hspec x hx hfx).2 rfl) hnm).1]
    exact hfit
  have hkeep : D.par.keep ([] : List Nat) = [] := by
    cases hkk : D.par.keep ([] : List Nat) with
    | nil => rfl
    | cons n l => exact absurd (keep_mem D.par [] n (by rw [hkk]; exact List.mem_cons_self)) (by simp)
  refine ⟨rfl, ⟨fun r => backAny D t (t.id o.dst) (renew (D.par.keep []) (D.par.inout.nest false)) (cast (by rw [Env.resT, hD]) r), ?_, ?_⟩⟩
  · rw [hst t ha]
    refine (callOut_mk (s := t) (s1 := t) hinl hD has' hfit' hf ?_).trans (by rw [if_neg hopt])
    refine (callD_mk hnf' has' (s2 := t) (ns := []) ⟨htk.trans h1, by rw [hvals]; exact h2, rfl, ?_, rfl⟩)
    simp only [Bool.and_eq_true] at h4 ⊢
    obtain ⟨⟨g1, g2⟩, g3⟩ := h4
    refine ⟨⟨g1, ?_⟩, by rw [hvals]; exact g3⟩
    rw [hkeep]
    simp [renewOK]
  · simp only [cast_cast, cast_eq, backAny, if_neg hopt]
    obtain ⟨rfl, rfl⟩ := hnew
    rw [b4]
    exact backOf_mk b1 (by rw [hid]; exact b2) (by simp)
end
end Go.GV
