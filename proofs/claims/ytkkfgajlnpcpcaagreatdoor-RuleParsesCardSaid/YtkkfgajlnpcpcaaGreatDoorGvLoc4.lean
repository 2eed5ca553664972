/-
GV: calls, where the slots besides are others. (This session's own text.)
-/
import Derived.Test.YtkkfgajlnpcpcaaGreatDoorGvLoc3
set_option linter.unusedVariables false
set_option linter.unusedSimpArgs false
namespace Go.GV
section
variable {E : Env} {s t s1 s2 : St} {o : Oper} {out : Out E} {D : FnD}
/-! ### Names of what is made -/
mutual
theorem mk_keys : ∀ {s : Sh} {x : s.T.D} {ns : List Nat} {c : List Lf} {ob : List (Nat × Ob)} {rest : List Nat}, s.mk ns x = some (c, ob, rest) → ns = ob.map (·.1) ++ rest ∧ ob.length = s.cnt
  | .val t, x, ns, c, ob, rest, h => by simp only [Sh.mk] at h; cases h; exact ⟨rfl, rfl⟩
  | .own e t, x, [], c, ob, rest, h => by simp [Sh.mk] at h
  | .own e t, x, r :: m, c, ob, rest, h => by simp only [Sh.mk] at h; cases h; exact ⟨rfl, rfl⟩
  | .mv e t, x, [], c, ob, rest, h => by simp [Sh.mk] at h
  | .mv e t, x, r :: m, c, ob, rest, h => by simp only [Sh.mk] at h; cases h; exact ⟨rfl, rfl⟩
  | .box T sh, x, [], c, ob, rest, h => by simp [Sh.mk] at h
  | .box T sh, x, b :: m, c, ob, rest, h => by
    simp only [Sh.mk] at h
    split at h
    · rename_i c1 ob1 m1 h1
      cases h
      obtain ⟨h2, h3⟩ := mks_keys h1
      exact ⟨by simp [h2], by simp [h3, Sh.cnt]⟩
    · cases h
  | .fn f sh, x, ns, c, ob, rest, h => by
    simp only [Sh.mk] at h
    split at h
    · rename_i c1 ob1 m1 h1
      split at h1
      · cases h
        exact mks_keys (s := sh) h1
      · cases h1
    · cases h
theorem mks_keys : ∀ {s : Shs} {x : s.T.D} {ns : List Nat} {c : List Lf} {ob : List (Nat × Ob)} {rest : List Nat}, s.mk ns x = some (c, ob, rest) → ns = ob.map (·.1) ++ rest ∧ ob.length = s.cnt
  | .nil, x, ns, c, ob, rest, h => by simp only [Shs.mk] at h; cases h; exact ⟨rfl, rfl⟩
  | .cons s l, x, ns, c, ob, rest, h => by
    simp only [Shs.mk] at h
    split at h
    · rename_i c1 ob1 m1 h1
      split at h
      · rename_i c2 ob2 m2 h2
        cases h
        obtain ⟨h3, h4⟩ := mk_keys h1
        obtain ⟨h5, h6⟩ := mks_keys h2
        exact ⟨by rw [h3, h5]; simp, by simp [h4, h6, Shs.cnt]⟩
      · cases h
    · cases h
end
theorem mkA_keys : ∀ {s : Shs} {x : s.T.D} {ns : List Nat} {c : List (Bool × List Lf)} {ob : List (Nat × Ob)} {rest : List Nat}, s.mkA ns x = some (c, ob, rest) → ns = ob.map (·.1) ++ rest ∧ ob.length = s.cnt
  | .nil, x, ns, c, ob, rest, h => by simp only [Shs.mkA] at h; cases h; exact ⟨rfl, rfl⟩
  | .cons s l, x, ns, c, ob, rest, h => by
    simp only [Shs.mkA] at h
    split at h
    · rename_i c1 ob1 m1 h1
      split at h
      · rename_i c2 ob2 m2 h2
        cases h
        obtain ⟨h3, h4⟩ := mk_keys h1
        obtain ⟨h5, h6⟩ := mkA_keys h2
        exact ⟨by rw [h3, h5]; simp, by simp [h4, h6, Shs.cnt]⟩
      · cases h
    · cases h
/-! ### What is handed over, if only values are -/
theorem map_congr_lf {f g : Lf → Lf} {l : List Lf} (h : ∀ c ∈ l, f c = g c) : l.map f = l.map g := List.map_congr_left h
theorem cnt_cons {s : Sh} {l : Shs} (h : (Shs.cons s l).cnt = 0) : s.cnt = 0 ∧ l.cnt = 0 := by simp only [Shs.cnt] at h; omega
mutual
theorem take_congr {ob ob' : List (Nat × Ob)} : ∀ {s : Sh} {l : List Lf}, s.cnt = 0 → (∀ c ∈ l, ∀ n ∈ c.nms, look ob' n = look ob n) → s.take ob' l = s.take ob l ∧ (∀ x ns, s.take ob l = some (x, ns) → ns = [])
  | .val t, l, _, h => by
    have : l.map (Lf.frz ob') = l.map (Lf.frz ob) := map_congr_lf fun c hc => lfrz_congr (h c hc)
    refine ⟨by simp only [Sh.take, this], fun x ns hx => ?_⟩
    simp only [Sh.take] at hx
    split at hx <;> cases hx
    rfl
  | .own _ _, _, h, _ => by cases h
  | .mv _ _, _, h, _ => by cases h
  | .box _ _, _, h, _ => by simp [Sh.cnt] at h
  | .fn f sh, l, hc, h => by
    simp only [Sh.take]
    split
    · rename_i f' cs
      generalize Nat.beq f f' = b
      cases b with
      | true =>
        have hh : ∀ c ∈ cs.map (fun b => Lf.p b 0), ∀ n ∈ c.nms, look ob' n = look ob n := by
          intro c hc2 n hn
          obtain ⟨b, hb, rfl⟩ := List.mem_map.1 hc2
          simp only [Lf.nms, List.mem_singleton] at hn
          subst hn
          exact h _ List.mem_cons_self n hb
        exact takes_congr (s := sh) hc hh
      | false => exact ⟨rfl, fun _ _ hx => by cases hx⟩
    · exact ⟨rfl, fun _ _ hx => by cases hx⟩
theorem takes_congr {ob ob' : List (Nat × Ob)} : ∀ {s : Shs} {l : List Lf}, s.cnt = 0 → (∀ c ∈ l, ∀ n ∈ c.nms, look ob' n = look ob n) → s.take ob' l = s.take ob l ∧ (∀ x ns, s.take ob l = some (x, ns) → ns = [])
  | .nil, l, _, _ => by
    refine ⟨rfl, fun x ns hx => ?_⟩
    simp only [Shs.take] at hx
    split at hx <;> cases hx
    rfl
  | .cons s l, c, hc, h => by
    obtain ⟨h1, h2⟩ := cnt_cons hc
    obtain ⟨h3, h4⟩ := take_congr (s := s) (l := c.take s.w) h1 fun c hc => h c (List.mem_of_mem_take hc)
    obtain ⟨h5, h6⟩ := takes_congr (s := l) (l := c.drop s.w) h2 fun c hc => h c (List.mem_of_mem_drop hc)
    refine ⟨by simp only [Shs.take, h3, h5], fun x ns hx => ?_⟩
    simp only [Shs.take] at hx
    split at hx
    · rename_i x1 a1 e1
      split at hx
      · rename_i y b1 e2
        cases hx
        rw [h4 _ _ e1, h6 _ _ e2]
        rfl
      · cases hx
    · cases hx
end
theorem cells_nms {x : Slot} {l : List Lf} (h : x.cells = some l) {c : Lf} (hc : c ∈ l) {n : Nat} (hn : n ∈ c.nms) : n ∈ x.nms := by
  cases x with
  | lf d =>
    simp only [Slot.cells] at h
    split at h
    · cases h
      simp only [List.mem_singleton] at hc
      subst hc
      exact hn
    · cases h
  | ag m =>
    simp only [Slot.cells] at h
    split at h
    · cases h
      exact List.mem_flatMap.2 ⟨c, hc, hn⟩
    · cases h
  | _ => cases h
theorem takeA_congr {ob ob' : List (Nat × Ob)} : ∀ {s : Shs} {l : List Slot}, s.cnt = 0 → (∀ c ∈ l, ∀ n ∈ c.nms, look ob' n = look ob n) → s.takeA ob' l = s.takeA ob l ∧ (∀ x ns, s.takeA ob l = some (x, ns) → ns = [])
  | .nil, l, _, _ => by
    refine ⟨rfl, fun x ns hx => ?_⟩
    simp only [Shs.takeA] at hx
    split at hx <;> cases hx
    rfl
  | .cons s l, [], _, _ => ⟨rfl, fun x ns hx => by simp [Shs.takeA] at hx⟩
  | .cons s l, c :: r, hc, h => by
    obtain ⟨h1, h2⟩ := cnt_cons hc
    obtain ⟨h5, h6⟩ := takeA_congr (s := l) (l := r) h2 fun c hc => h c (List.mem_cons_of_mem _ hc)
    cases hcl : c.cells with
    | none => simp [Shs.takeA, hcl]
    | some cl =>
      obtain ⟨h3, h4⟩ := take_congr (s := s) (l := cl) h1 fun d hd n hn => h c List.mem_cons_self n (cells_nms hcl hd hn)
      simp only [Shs.takeA, hcl, h3, h5]
      refine ⟨trivial, fun x ns hx => ?_⟩
      split at hx
      · split at hx
        · rename_i x1 a1 e1
          split at hx
          · rename_i y b1 e2
            cases hx
            rw [h4 _ _ e1, h6 _ _ e2]
            rfl
          · cases hx
        · cases hx
      · cases hx
mutual
theorem vals_congr {ob ob' : List (Nat × Ob)} : ∀ {s : Sh} {l : List Lf}, s.cnt = 0 → s.vals ob' l = s.vals ob l
  | .val t, l, _ => rfl
  | .own _ _, _, h => by cases h
  | .mv _ _, _, h => by cases h
  | .box _ _, _, h => by simp [Sh.cnt] at h
  | .fn f sh, l, hc => by
    simp only [Sh.vals]
    split
    · exact valss_congr (s := sh) hc
    · rfl
theorem valss_congr {ob ob' : List (Nat × Ob)} : ∀ {s : Shs} {l : List Lf}, s.cnt = 0 → s.vals ob' l = s.vals ob l
  | .nil, l, _ => rfl
  | .cons s l, c, hc => by
    obtain ⟨h1, h2⟩ := cnt_cons hc
    simp only [Shs.vals, vals_congr h1 (ob := ob) (ob' := ob'), valss_congr h2 (ob := ob) (ob' := ob')]
end
theorem valsA_congr {ob ob' : List (Nat × Ob)} : ∀ {s : Shs} {l : List Slot}, s.cnt = 0 → s.valsA ob' l = s.valsA ob l
  | .nil, l, _ => rfl
  | .cons s l, [], _ => rfl
  | .cons s l, c :: r, hc => by
    obtain ⟨h1, h2⟩ := cnt_cons hc
    simp only [Shs.valsA, vals_congr h1 (ob := ob) (ob' := ob'), valsA_congr h2 (ob := ob) (ob' := ob')]
/-! ### A call, taken apart and put together -/
theorem fits_mem {f : FuncId} {as : List Slot} {key : Nat} : ∀ {l : List (Nat × FnD)}, fits s f as l = some key → True
  | _, _ => trivial
theorem fits_congr {f : FuncId} {as : List Slot} : ∀ {l : List (Nat × FnD)}, (∀ x ∈ l, x.2.fid = f → x.2.par.takeA t.ob as = x.2.par.takeA s.ob as) → fits t f as l = fits s f as l
  | [], _ => rfl
  | (k, D) :: l, h => by
    have ih := fits_congr (l := l) fun x hx => h x (List.mem_cons_of_mem _ hx)
    simp only [fits, ih]
    by_cases hf : D.fid = f
    · rw [h (k, D) List.mem_cons_self hf]
    · have : Nat.beq D.fid f = false := by
        cases hb : Nat.beq D.fid f with
        | false => rfl
        | true => exact absurd (beqt.1 hb) hf
      simp [this]
structure CD (D : FnD) (s : St) (d : Option Nat) (as : List Slot) (s2 : St) (x : D.par.T.D) (k : (D.res.T.app D.par.inout.T).D → Option (Slot × List (Nat × Ob))) (ns : List Nat) : Prop where
  tk : D.par.takeA s.ob as = some (x, ns)
  nd : nodupB (ns ++ dedup [] (rowNames (D.par.valsA s.ob as))) = true
  st : s2 = s.withOb (delAll s.ob ns)
  ok : (nodupB (renew (D.par.keep ns) (D.par.inout.nest false)) && renewOK s2 (D.par.keep ns) (D.par.inout.nest false) && ((!(D.res.vr || D.par.inout.vr)) || isNil (rowNames (D.par.valsA s.ob as)))) = true
  k : k = fun r => backAny D s2 (s.id d) (renew (D.par.keep ns) (D.par.inout.nest false)) r
theorem callD_inv {d : Option Nat} {xs : List Operand} {as0 caps : List Slot} {x : D.par.T.D} {k : (D.res.T.app D.par.inout.T).D → Option (Slot × List (Nat × Ob))}
    (hf : (isNil (rowNames (D.par.valsA s.ob (as0 ++ caps))) || !(D.res.vr || D.par.inout.vr)) = true) (has : s.cellsOf xs = some as0) (h : callD D s d xs as0 caps = some (s2, x, k)) : ∃ ns, CD D s d (as0 ++ caps) s2 x k ns := by
  unfold callD at h
  have hs : (if (D.res.vr || D.par.inout.vr) = true then s.frzAll (D.par.valsA s.ob (as0 ++ caps)) else s) = s := by
    simp only [Bool.or_eq_true, Bool.not_eq_true'] at hf
    split
    · rename_i hr
      rcases hf with hf | hf
      · exact frzAll_nil (isNil_eq hf)
      · rw [hr] at hf; cases hf
    · rfl
  simp only [hs, has] at h
  split at h
  · cases h
  · rename_i x' ns hta
    split at h
    · rename_i hnd
      split at h
      · rename_i hok
        cases h
        exact ⟨ns, hta, hnd, rfl, hok, rfl⟩
      · cases h
    · cases h
theorem callD_mk {d : Option Nat} {xs : List Operand} {as0 caps : List Slot} {x : D.par.T.D} {k : (D.res.T.app D.par.inout.T).D → Option (Slot × List (Nat × Ob))} {ns : List Nat}
    (hf : (isNil (rowNames (D.par.valsA s.ob (as0 ++ caps))) || !(D.res.vr || D.par.inout.vr)) = true) (has : s.cellsOf xs = some as0) (h : CD D s d (as0 ++ caps) s2 x k ns) : callD D s d xs as0 caps = some (s2, x, k) := by
  obtain ⟨h1, h2, h3, h4, h5⟩ := h
  unfold callD
  have hs : (if (D.res.vr || D.par.inout.vr) = true then s.frzAll (D.par.valsA s.ob (as0 ++ caps)) else s) = s := by
    simp only [Bool.or_eq_true, Bool.not_eq_true'] at hf
    split
    · rename_i hr
      rcases hf with hf | hf
      · exact frzAll_nil (isNil_eq hf)
      · rw [hr] at hf; cases hf
    · rfl
  subst h3
  subst h5
  simp only [hs, has, h1, h2, h4, if_true]
theorem callOut_inv {d : Option Nat} {f : FuncId} {xs : List Operand} {caps : List Slot} (hinl : E.inl = []) (h : callOut E s d f xs caps = some (s1, out)) :
    ∃ as0 key D x k, ∃ (hD : look E.fn key = some D), s.cellsOf xs = some as0 ∧ fits s f (as0 ++ caps) E.fn = some key ∧ D.fid = f ∧ callD D s d xs as0 caps = some (s1, x, k) ∧
      out = (if D.opt = true then .callN key (cast (by rw [Env.argT, hD]) x) (fun r => k (cast (by rw [Env.resT, hD]) r)) (E.resT key).optQ else .call key (cast (by rw [Env.argT, hD]) x) fun r => k (cast (by rw [Env.resT, hD]) r)) := by
  unfold callOut at h
  split at h
  · cases h
  · rename_i as0 has
    rw [hinl] at h
    simp only [look] at h
    split at h
    · cases h
    · rename_i key hfit
      split at h
      · cases h
      · rename_i D hD
        split at h
        · rename_i hf
          split at h
          · rename_i s2 x k hc
            cases h
            exact ⟨as0, key, D, x, k, hD, has, hfit, beqt.1 hf, hc, rfl⟩
          · cases h
        · cases h
theorem callOut_mk {d : Option Nat} {f : FuncId} {xs : List Operand} {caps : List Slot} (hinl : E.inl = []) {as0 : List Slot} {key : Nat} {x : D.par.T.D} {k : (D.res.T.app D.par.inout.T).D → Option (Slot × List (Nat × Ob))} (hD : look E.fn key = some D)
    (has : s.cellsOf xs = some as0) (hfit : fits s f (as0 ++ caps) E.fn = some key) (hf : D.fid = f) (hc : callD D s d xs as0 caps = some (s1, x, k)) :
    callOut E s d f xs caps = some (s1, if D.opt = true then .callN key (cast (by rw [Env.argT, hD]) x) (fun r => k (cast (by rw [Env.resT, hD]) r)) (E.resT key).optQ else .call key (cast (by rw [Env.argT, hD]) x) fun r => k (cast (by rw [Env.resT, hD]) r)) := by
  unfold callOut
  rw [has]
  simp only [hinl, look, hfit]
  split
  · rename_i h
    exact absurd (h.symm.trans hD) (by simp)
  · rename_i D' hD'
    have e : D' = D := Option.some.inj (hD'.symm.trans hD)
    subst e
    rw [if_pos (beqt.2 hf), hc]
end
end Go.GV
