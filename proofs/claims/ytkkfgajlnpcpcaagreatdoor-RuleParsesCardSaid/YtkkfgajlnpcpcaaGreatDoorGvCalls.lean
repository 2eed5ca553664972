/-
GV: a call. (This session's own text.)
-/
import Derived.Test.YtkkfgajlnpcpcaaGreatDoorGvShape
set_option linter.unusedVariables false
set_option linter.unusedSimpArgs false
namespace Go.GV
section
variable {P : Program} {E : Env} {w0 w w' : World} {M Z0 Z Z' : Nat → Prop} {γ γ' : Nat → Value} {ob : List (Nat × Ob)}

/-! ### What comes back of what was handed over -/
theorem io_rep : ∀ {s : Shs} {z : s.inout.T.D} {vs : List Value} {bs : List Nat}, s.inout.RepA w Z z vs bs → s.inout.Rep w Z z vs bs
  | .nil, _, _, _, h => h
  | .cons (.val _) l, _, _, _, h => io_rep (s := l) h
  | .cons (.mv _ _) l, _, _, _, h => io_rep (s := l) h
  | .cons (.own e t) l, _, _, _, ⟨v, vs', c, d, e1, e2, ⟨cs, h1, h2⟩, h3⟩ => ⟨[v], vs', c, d, e1, e2, by simp only [Sh.agg, Bool.false_eq_true, if_false] at h1; rw [← h1]; exact h2, io_rep (s := l) h3⟩
  | .cons (.box T b) l, _, _, _, ⟨v, vs', c, d, e1, e2, ⟨cs, h1, h2⟩, h3⟩ => ⟨[v], vs', c, d, e1, e2, by simp only [Sh.agg, Bool.false_eq_true, if_false] at h1; rw [← h1]; exact h2, io_rep (s := l) h3⟩
  | .cons (.fn f b) l, _, _, _, ⟨v, vs', c, d, e1, e2, ⟨cs, h1, h2⟩, h3⟩ => ⟨[v], vs', c, d, e1, e2, by simp only [Sh.agg, Bool.false_eq_true, if_false] at h1; rw [← h1]; exact h2, io_rep (s := l) h3⟩
theorem io_top : ∀ {s : Shs} {vs us : List Value}, s.TopA vs us → s.inout.Top (s.io vs) (s.keep us)
  | .nil, _, _, h => by obtain ⟨h1, h2⟩ := h; subst h1 h2; rfl
  | .cons s l, _, _, ⟨v, vs', c, d, cs, e1, e2, h1, h2, h3⟩ => by
    subst e1 e2
    have ih := io_top h3
    have hl := top_len h2
    cases s with
    | val t => cases h2; simpa [Shs.io, Shs.keep, Shs.inout, Sh.cnt] using ih
    | mv e t =>
      simp only [Shs.io, Shs.keep, Shs.inout, List.nil_append, ← hl, List.drop_left]
      exact ih
    | own e t =>
      simp only [Sh.agg, Bool.false_eq_true, if_false] at h1
      subst h1
      refine ⟨[v], l.io vs', c, l.keep d, rfl, ?_, rfl, h2, ih⟩
      simp only [Shs.keep, ← hl, List.take_left, List.drop_left]
    | box T b =>
      simp only [Sh.agg, Bool.false_eq_true, if_false] at h1
      subst h1
      refine ⟨[v], l.io vs', c, l.keep d, rfl, ?_, rfl, h2, ih⟩
      simp only [Shs.keep, ← hl, List.take_left, List.drop_left]
    | fn f b =>
      simp only [Sh.agg, Bool.false_eq_true, if_false] at h1
      subst h1
      refine ⟨[v], l.io vs', c, l.keep d, rfl, ?_, rfl, h2, ih⟩
      simp only [Shs.keep, ← hl, List.take_left, List.drop_left]
theorem keep_map {α β : Type} (f : α → β) : ∀ (s : Shs) (ns : List α), (s.keep ns).map f = s.keep (ns.map f)
  | .nil, _ => rfl
  | .cons s l, ns => by
    simp only [Shs.keep, List.map_append, keep_map f l, ← List.map_drop]
    cases s <;> simp [List.map_take]
theorem keep_mem {α : Type} : ∀ (s : Shs) (ns : List α) (n : α), n ∈ s.keep ns → n ∈ ns
  | .nil, _, n, h => by simp [Shs.keep] at h
  | .cons s l, ns, n, h => by
    simp only [Shs.keep, List.mem_append] at h
    rcases h with h | h
    · cases s <;> first | (simp at h; done) | exact List.mem_of_mem_take h
    · exact List.mem_of_mem_drop (keep_mem l _ n h)
theorem keep_kinds : ∀ {s : Shs} {ns : List Nat}, All2 (KOK ob) s.kinds ns → All2 (KOK ob) s.inout.kinds (s.keep ns)
  | .nil, _, _ => trivial
  | .cons s l, ns, h => by
    simp only [Shs.kinds] at h
    obtain ⟨a, b, e, h1, h2⟩ := All2.split h
    subst e
    have hl := All2.length h1
    rw [kinds_len] at hl
    have ih := keep_kinds h2
    cases s with
    | val t => simpa [Shs.keep, Shs.inout, Sh.cnt] using (show All2 (KOK ob) l.inout.kinds (l.keep ((a ++ b).drop 0)) by
        have : a = [] := List.eq_nil_of_length_eq_zero (by rw [← hl]; rfl)
        subst this
        simpa using ih)
    | mv e t => simp only [Shs.keep, Shs.inout, List.nil_append, hl, List.drop_left]; exact ih
    | own e t => simp only [Shs.keep, Shs.inout, Shs.kinds, hl, List.take_left, List.drop_left]; exact All2.append h1 ih
    | box T b => simp only [Shs.keep, Shs.inout, Shs.kinds, hl, List.take_left, List.drop_left]; exact All2.append h1 ih
    | fn f b => simp only [Shs.keep, Shs.inout, Shs.kinds, hl, List.take_left, List.drop_left]; exact All2.append h1 ih
mutual
theorem nest_true : ∀ (s : Sh), ∀ b ∈ s.nest true, b = true
  | .val _, b, h => by simp [Sh.nest] at h
  | .own _ _, b, h => by simpa [Sh.nest] using h
  | .mv _ _, b, h => by simpa [Sh.nest] using h
  | .box _ l, b, h => by
    simp only [Sh.nest, List.mem_cons] at h
    rcases h with h | h
    · exact h
    · exact nests_true l b h
  | .fn _ l, b, h => nests_true l b h
theorem nests_true : ∀ (s : Shs), ∀ b ∈ s.nest true, b = true
  | .nil, b, h => by simp [Shs.nest] at h
  | .cons s l, b, h => by
    simp only [Shs.nest, List.mem_append] at h
    rcases h with h | h
    · exact nest_true s b h
    · exact nests_true l b h
end
theorem all_true (s : Shs) (i : Nat) (b : Bool) (h : (s.nest true)[i]? = some b) : b = true := nests_true s b (List.mem_of_getElem? h)
mutual
theorem top_eq : ∀ {s : Sh} {vs us us' : List Value}, s.Top vs us → s.Top vs us' → ∀ (i : Nat), (s.nest false)[i]? = some false → us[i]? = us'[i]?
  | .val _, _, _, _, h, h', i, _ => by cases h; cases h'; rfl
  | .own _ _, _, _, _, h, h', i, _ => by rw [h.1, h'.1]
  | .mv _ _, _, _, _, h, h', i, _ => by rw [h.1, h'.1]
  | .box _ l, _, _, _, ⟨v, us1, e1, e2, h1⟩, ⟨v', us1', e1', e2', h1'⟩, i, hi => by
    rw [e1] at e1'
    cases e1'
    cases i with
    | zero => rw [e2, e2']; rfl
    | succ i =>
      simp only [Sh.nest, List.getElem?_cons_succ] at hi
      cases all_true l i false hi
  | .fn _ l, _, _, _, ⟨v, e1, h1⟩, ⟨v', e1', h1'⟩, i, hi => by
    rw [e1] at e1'
    cases e1'
    exact tops_eq (s := l) h1 h1' i hi
theorem tops_eq : ∀ {s : Shs} {vs us us' : List Value}, s.Top vs us → s.Top vs us' → ∀ (i : Nat), (s.nest false)[i]? = some false → us[i]? = us'[i]?
  | .nil, _, _, _, h, h', i, _ => by cases h; cases h'; rfl
  | .cons s l, _, _, _, ⟨a, b, c, d, e1, e2, h1, h2, h3⟩, ⟨a', b', c', d', e1', e2', h1', h2', h3'⟩, i, hi => by
    rw [e1] at e1'
    obtain ⟨ea, eb⟩ := List.append_inj e1' (by rw [h1, h1'])
    subst ea eb e2 e2'
    have hc := top_len h2
    have hc' := top_len h2'
    simp only [Shs.nest] at hi
    by_cases hlt : i < s.cnt
    · rw [List.getElem?_append_left (by rw [nest_len]; exact hlt)] at hi
      rw [List.getElem?_append_left (by rw [hc]; exact hlt), List.getElem?_append_left (by rw [hc']; exact hlt)]
      exact top_eq h2 h2' i hi
    · rw [List.getElem?_append_right (by rw [nest_len]; omega), nest_len] at hi
      rw [List.getElem?_append_right (by rw [hc]; omega), List.getElem?_append_right (by rw [hc']; omega), hc, hc']
      exact tops_eq h3 h3' _ hi
end
theorem renew_get : ∀ {bk : List Nat} {fl : List Bool} {i n : Nat}, bk.length = fl.length → (renew bk fl)[i]? = some n →
    (∃ m, bk[i]? = some m ∧ fl[i]? = some true ∧ n = m + 1000000) ∨ (bk[i]? = some n ∧ fl[i]? = some false)
  | [], [], i, n, _, h => by simp [renew] at h
  | m :: bk, true :: fl, 0, n, _, h => by simp [renew] at h; exact .inl ⟨m, rfl, rfl, h.symm⟩
  | m :: bk, false :: fl, 0, n, _, h => by simp [renew] at h; subst h; exact .inr ⟨rfl, rfl⟩
  | m :: bk, true :: fl, i + 1, n, hl, h => by
    simp only [renew, List.getElem?_cons_succ] at h ⊢
    exact renew_get (by simpa using hl) h
  | m :: bk, false :: fl, i + 1, n, hl, h => by
    simp only [renew, List.getElem?_cons_succ] at h ⊢
    exact renew_get (by simpa using hl) h
  | [], _ :: _, _, _, hl, _ => by simp at hl
  | _ :: _, [], _, _, hl, _ => by simp at hl
theorem renewOK_get {s : St} : ∀ {bk : List Nat} {fl : List Bool} {i m : Nat}, renewOK s bk fl = true → bk[i]? = some m → fl[i]? = some true → s.fresh (m + 1000000) = true
  | m :: bk, true :: fl, 0, k, h, h1, _ => by
    simp only [renewOK, Bool.and_eq_true] at h
    simp at h1
    subst h1
    exact h.1
  | m :: bk, false :: fl, 0, k, h, _, h2 => by simp at h2
  | m :: bk, true :: fl, i + 1, k, h, h1, h2 => by
    simp only [renewOK, Bool.and_eq_true] at h
    exact renewOK_get h.2 (by simpa using h1) (by simpa using h2)
  | m :: bk, false :: fl, i + 1, k, h, h1, h2 => by
    simp only [renewOK] at h
    exact renewOK_get h (by simpa using h1) (by simpa using h2)
  | [], _, _, _, _, h1, _ => by simp at h1
  | _ :: _, [], _, _, _, _, h2 => by simp at h2
theorem mem_putAll {n : Nat} {o : Ob} : ∀ {l ob : List (Nat × Ob)}, look (putAll ob l) n = some o → (n, o) ∈ l ∨ (n ∉ l.map (·.1) ∧ look ob n = some o)
  | [], _, h => .inr ⟨by simp, h⟩
  | (k, b) :: l, ob, h => by
    simp only [putAll] at h
    rcases mem_putAll (l := l) h with h | ⟨h1, h2⟩
    · exact .inl (List.mem_cons_of_mem _ h)
    · rw [look_put] at h2
      by_cases hk : k = n
      · rw [if_pos hk] at h2
        cases h2
        subst hk
        exact .inl List.mem_cons_self
      · rw [if_neg hk] at h2
        exact .inr ⟨by simp only [List.map_cons, List.mem_cons, not_or]; exact ⟨Ne.symm hk, h1⟩, h2⟩
theorem look_delAll {n : Nat} {o : Ob} : ∀ {l : List Nat} {ob : List (Nat × Ob)}, look (delAll ob l) n = some o → n ∉ l ∧ look ob n = some o
  | [], _, h => ⟨by simp, h⟩
  | k :: l, ob, h => by
    simp only [delAll] at h
    obtain ⟨h1, h2⟩ := look_delAll h
    rw [look_del] at h2
    by_cases hk : k = n
    · rw [if_pos hk] at h2; cases h2
    · rw [if_neg hk] at h2
      exact ⟨by simp only [List.mem_cons, not_or]; exact ⟨Ne.symm hk, h1⟩, h2⟩
theorem mem_dedup {n : Nat} : ∀ (l a : List Nat), n ∈ a ∨ n ∈ l → n ∈ dedup a l
  | [], a, h => by simpa [dedup] using h
  | k :: l, a, h => by
    simp only [dedup]
    split
    · rename_i hk
      refine mem_dedup l a ?_
      rcases h with h | h
      · exact .inl h
      · rcases List.mem_cons.1 h with rfl | h
        · obtain ⟨m, hm, hb⟩ := List.any_eq_true.1 hk
          exact .inl (beqt.1 hb ▸ hm)
        · exact .inr h
    · refine mem_dedup l _ ?_
      rcases h with h | h
      · exact .inl (List.mem_append_left _ h)
      · rcases List.mem_cons.1 h with rfl | h
        · exact .inl (List.mem_append_right _ List.mem_cons_self)
        · exact .inr h
theorem from_mem : ∀ (k n m : Nat), m ∈ from_ n k → n ≤ m
  | 0, _, _, h => by simp [from_] at h
  | k + 1, n, m, h => by
    simp only [from_, List.mem_cons] at h
    rcases h with rfl | h
    · exact Nat.le_refl _
    · exact Nat.le_of_lt (from_mem k (n + 1) m h)
theorem from_nodup : ∀ (k n : Nat), (from_ n k).Nodup
  | 0, _ => List.nodup_nil
  | k + 1, n => List.nodup_cons.2 ⟨fun h => absurd (from_mem k (n + 1) n h) (by omega), from_nodup k (n + 1)⟩
theorem kok_live : ∀ {ks : List (Option (TypeId × Ty))} {ns : List Nat}, All2 (KOK ob) ks ns → ∀ n ∈ ns, ∃ o, look ob n = some o
  | [], [], _, n, h => by simp at h
  | k :: ks, m :: ns, h, n, hn => by
    rcases List.mem_cons.1 hn with rfl | hn
    · have := h.1
      cases k with
      | none => obtain ⟨T, l, h⟩ := this; exact ⟨_, h⟩
      | some k => obtain ⟨xs, h⟩ := this; exact ⟨_, h⟩
    · exact kok_live h.2 n hn
  | [], _ :: _, h, _, _ => h.elim
  | _ :: _, [], h, _, _ => h.elim
/-! ### Kinds without rows -/
mutual
theorem Ty.Rep.norow : ∀ {t : Ty} {x : t.D} {cs : List Value}, t.rows = false → t.Rep w Z x cs → t.Rep w Z' x cs
  | .int _, _, _, _, h | .bool, _, _, _, h | .str, _, _, _, h => h
  | .err, _, _, _, h => h
  | .st fs, _, _, hr, h => Tys.Rep.norow (ts := fs) hr h
  | .row _ _, _, _, hr, _ => by cases hr
  | .any _ _, _, _, hr, ⟨v, l, e, h1, h2⟩ => ⟨v, l, e, h1, Ty.Rep.norow hr h2⟩
theorem Tys.Rep.norow : ∀ {ts : Tys} {x : ts.D} {cs : List Value}, ts.rows = false → ts.Rep w Z x cs → ts.Rep w Z' x cs
  | .nil, _, _, _, h => h
  | .cons _ _, _, _, hr, ⟨a, b, e, h1, h2⟩ => by
    simp only [Tys.rows, Bool.or_eq_false_iff] at hr
    exact ⟨a, b, e, Ty.Rep.norow hr.1 h1, Tys.Rep.norow hr.2 h2⟩
end
mutual
theorem Sh.Rep.norow : ∀ {s : Sh} {x : s.T.D} {cs : List Value} {bs : List Nat}, s.vr = false → s.Rep w Z x cs bs → s.Rep w Z' x cs bs
  | .val t, _, _, _, hr, h => ⟨Ty.Rep.norow hr h.1, h.2⟩
  | .own _ t, _, _, _, hr, ⟨v, us, e, h1, h2, h3⟩ => ⟨v, us, e, h1, RepL.imp (fun _ _ h => Ty.Rep.norow hr h) h2, h3⟩
  | .mv _ t, _, _, _, hr, ⟨v, us, e, h1, h2, h3⟩ => ⟨v, us, e, h1, RepL.imp (fun _ _ h => Ty.Rep.norow hr h) h2, h3⟩
  | .box _ sh, _, _, _, hr, ⟨g, cur, bs', e, h1, h2, h3⟩ => ⟨g, cur, bs', e, h1, Shs.Rep.norow (s := sh) hr h2, h3⟩
  | .fn _ sh, _, _, _, hr, ⟨ps, e, hk, h⟩ => ⟨ps, e, hk, Shs.Rep.norow (s := sh) hr h⟩
theorem Shs.Rep.norow : ∀ {s : Shs} {x : s.T.D} {cs : List Value} {bs : List Nat}, s.vr = false → s.Rep w Z x cs bs → s.Rep w Z' x cs bs
  | .nil, _, _, _, _, h => h
  | .cons s l, _, _, _, hr, ⟨a, b, c, d, e1, e2, h1, h2⟩ => by
    simp only [Shs.vr, Bool.or_eq_false_iff] at hr
    exact ⟨a, b, c, d, e1, e2, Sh.Rep.norow hr.1 h1, Shs.Rep.norow hr.2 h2⟩
end
theorem Shs.RepA.norow : ∀ {s : Shs} {x : s.T.D} {vs : List Value} {bs : List Nat}, s.vr = false → s.RepA w Z x vs bs → s.RepA w Z' x vs bs
  | .nil, _, _, _, _, h => h
  | .cons s l, _, _, _, hr, ⟨v, vs', c, d, e1, e2, ⟨cs, h0, h1⟩, h2⟩ => by
    simp only [Shs.vr, Bool.or_eq_false_iff] at hr
    exact ⟨v, vs', c, d, e1, e2, ⟨cs, h0, Sh.Rep.norow hr.1 h1⟩, Shs.RepA.norow hr.2 h2⟩
theorem rows_app : ∀ (a b : Tys), (a.app b).rows = (a.rows || b.rows)
  | .nil, b => rfl
  | .cons t a, b => by simp only [Tys.app, Tys.rows, rows_app a b, Bool.or_assoc]
end
end Go.GV
