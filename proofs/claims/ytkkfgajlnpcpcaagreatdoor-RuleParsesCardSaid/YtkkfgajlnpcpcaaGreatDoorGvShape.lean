/-
GV: what is handed over, and what comes back. (This session's own text.)
-/
import Derived.Test.YtkkfgajlnpcpcaaGreatDoorGvMem
set_option linter.unusedVariables false
set_option linter.unusedSimpArgs false
namespace Go.GV

/-! ### Contents by shapes, with the blocks that are handed over -/
mutual
def Sh.Rep (w : World) (Z : Nat → Prop) : (s : Sh) → s.T.D → List Value → List Nat → Prop
  | .val t, x, cs, bs => t.Rep w Z x cs ∧ bs = []
  | .own E t, x, cs, bs => ∃ v us, cs = [v] ∧ w.ownsRow 0 E t.sz v (x : List t.D).length us ∧ RepL (t.Rep w Z) (x : List t.D) us ∧ bs = (blkV v).toList
  | .mv E t, x, cs, bs => ∃ v us, cs = [v] ∧ w.ownsRow 0 E t.sz v (x : List t.D).length us ∧ RepL (t.Rep w Z) (x : List t.D) us ∧ bs = (blkV v).toList
  | .box T sh, x, cs, bs => ∃ g cur bs', cs = [.pointer (some ⟨g, 0, none⟩)] ∧ w.heap[g]? = some (.cells cur T (0, 0)) ∧ sh.Rep w Z x cur.toList bs' ∧ bs = g :: bs'
  | .fn f sh, x, cs, bs => ∃ ps : List Value, cs = [Wv f ps] ∧ okW f ps ∧ sh.Rep w Z x ps bs
def Shs.Rep (w : World) (Z : Nat → Prop) : (s : Shs) → s.T.D → List Value → List Nat → Prop
  | .nil, _, cs, bs => cs = [] ∧ bs = []
  | .cons s l, x, cs, bs => ∃ a b c d, cs = a ++ b ∧ bs = c ++ d ∧ s.Rep w Z x.1 a c ∧ l.Rep w Z x.2 b d
end
/-- One value each. -/
def Shs.RepA (w : World) (Z : Nat → Prop) : (s : Shs) → s.T.D → List Value → List Nat → Prop
  | .nil, _, vs, bs => vs = [] ∧ bs = []
  | .cons s l, x, vs, bs => ∃ v vs' c d, vs = v :: vs' ∧ bs = c ++ d ∧ (∃ cs, (if s.agg = true then v = .agg cs.toArray else cs = [v]) ∧ s.Rep w Z x.1 cs c) ∧ l.RepA w Z x.2 vs' d
/-- A call's result. -/
def resVal : List Value → Value
  | [v] => v
  | vs => .tuple vs.toArray
/-- The values, at hand, of what comes back. -/
def Shs.io : Shs → List Value → List Value
  | .nil, _ => []
  | .cons _ _, [] => []
  | .cons s l, v :: vs => (match s with | .val _ => [] | .mv _ _ => [] | _ => [v]) ++ l.io vs
mutual
/-- The kinds of the rows and variables that are handed over, in order. -/
def Sh.kinds : Sh → List (Option (TypeId × Ty))
  | .val _ => []
  | .own E t => [some (E, t)]
  | .mv E t => [some (E, t)]
  | .box _ l => none :: l.kinds
  | .fn _ l => l.kinds
def Shs.kinds : Shs → List (Option (TypeId × Ty))
  | .nil => []
  | .cons s l => s.kinds ++ l.kinds
end
mutual
/-- Which values of rows and variables are settled by the cells: all but those that lie inside others. -/
def Sh.Top : Sh → List Value → List Value → Prop
  | .val _, _, us => us = []
  | .own _ _, vs, us => us = vs ∧ vs.length = 1
  | .mv _ _, vs, us => us = vs ∧ vs.length = 1
  | .box _ l, vs, us => ∃ v us', vs = [v] ∧ us = v :: us' ∧ us'.length = l.cnt
  | .fn _ l, vs, us => ∃ v, vs = [v] ∧ l.Top (capsV v) us
def Shs.Top : Shs → List Value → List Value → Prop
  | .nil, _, us => us = []
  | .cons s l, vs, us => ∃ a b c d, vs = a ++ b ∧ us = c ++ d ∧ a.length = s.w ∧ s.Top a c ∧ l.Top b d
end
def blks (l : List Value) : List Nat := l.flatMap fun v => (blkV v).toList
def KOK (ob : List (Nat × Ob)) (k : Option (TypeId × Ty)) (n : Nat) : Prop := match k with
  | some (E, t) => ∃ xs, look ob n = some (.row E t xs)
  | none => ∃ T l, look ob n = some (.box T l)
def KMk (k : Option (TypeId × Ty)) (p : Nat × Ob) : Prop := match k with
  | some (E, t) => ∃ xs, p.2 = .row E t xs
  | none => ∃ T l, p.2 = .box T l

section
variable {P : Program} {E : Env} {w0 w w' : World} {M Z0 Z Z' : Nat → Prop} {γ γ' : Nat → Value} {ob : List (Nat × Ob)}
theorem blks_append (a b : List Value) : blks (a ++ b) = blks a ++ blks b := by simp [blks]
theorem rowNames_append : ∀ (a b : List Lf), rowNames (a ++ b) = rowNames a ++ rowNames b
  | [], b => rfl
  | c :: a, b => by cases c <;> simp [rowNames, rowNames_append a b]
theorem frz_lf (hob : ∀ n o, look ob n = some o → ObOK w Z γ n o) (hz : ∀ k, Z k → Z' k) {c : Lf} {v : Value} (h : LfOK w Z γ c v) (hn : ∀ r ∈ rowNames [c], (look ob r).isSome = true → ∀ k, blkV (γ r) = some k → Z' k) : LfOK w Z' γ (c.frz ob) v := by
  have hst : Stay w w Z Z' := Stay.more w hz
  have hrow : ∀ r E t xs, look ob r = some (.row E t xs) → Rd w Z' t xs (γ r) := by
    intro r E t xs hl
    obtain ⟨cs, h1, h2⟩ := hob r _ hl
    exact rd_more hz (rd_own h1 h2)
  cases c with
  | o r =>
    simp only [Lf.frz]
    cases hl : look ob r with
    | none => exact LfOK.keep hst h fun _ _ => rfl
    | some o =>
      cases o with
      | box T l => exact LfOK.keep hst h fun _ _ => rfl
      | row E t xs =>
        rw [h.1]
        exact rep_of_rd (hrow r E t xs hl) fun k hk => hn r (by simp [rowNames]) (by simp [hl]) k hk
  | oh r j =>
    simp only [Lf.frz]
    cases hl : look ob r with
    | none => exact LfOK.keep hst h fun _ _ => rfl
    | some o =>
      cases o with
      | box T l => exact LfOK.keep hst h fun _ _ => rfl
      | row E t xs =>
        obtain ⟨A, n, c, h3, h4, _, h5⟩ := h
        have hr2 := hrow r E t xs hl
        rw [h3] at hr2
        rw [h4]
        exact rep_of_rd (rd_take _ h5 hr2) fun k hk => hn r (by simp [rowNames]) (by simp [hl]) k (by rw [h3]; cases A <;> simp [blkV] at hk ⊢ <;> exact hk)
  | ot r j z =>
    simp only [Lf.frz]
    cases hl : look ob r with
    | none => exact LfOK.keep hst h fun _ _ => rfl
    | some o =>
      cases o with
      | box T l => exact LfOK.keep hst h fun _ _ => rfl
      | row E t xs =>
        dsimp only
        split
        · rename_i hzz
          have := beqt.1 hzz
          subst this
          obtain ⟨A, n, c, h3, h4, _, h5⟩ := h
          have hr2 := hrow r E t xs hl
          rw [h3] at hr2
          rw [h4]
          refine rep_of_rd (rd_drop _ h5 hr2) fun k hk => hn r (by simp [rowNames]) (by simp [hl]) k ?_
          rw [h3]
          revert hk
          cases A <;> split <;> simp [blkV]
        · trivial
  | _ => exact LfOK.keep hst h fun _ _ => rfl
theorem frz_lfs (hob : ∀ n o, look ob n = some o → ObOK w Z γ n o) (hz : ∀ k, Z k → Z' k) : ∀ {l : List Lf} {vs : List Value}, All2 (LfOK w Z γ) l vs → (∀ r ∈ rowNames l, (look ob r).isSome = true → ∀ k, blkV (γ r) = some k → Z' k) → All2 (LfOK w Z' γ) (l.map (Lf.frz ob)) vs
  | [], [], _, _ => trivial
  | c :: l, v :: vs, h, hn => by
    have e : rowNames (c :: l) = rowNames [c] ++ rowNames l := rowNames_append [c] l
    exact ⟨frz_lf hob hz h.1 fun r hr => hn r (by rw [e]; exact List.mem_append_left _ hr), frz_lfs hob hz h.2 fun r hr => hn r (by rw [e]; exact List.mem_append_right _ hr)⟩
  | [], _ :: _, h, _ => h.elim
  | _ :: _, [], h, _ => h.elim
theorem caps_ok {cs : List Nat} (h : ∀ b ∈ cs, ∃ g, γ b = .pointer (some ⟨g, 0, none⟩)) : All2 (LfOK w Z γ) (cs.map fun b => .p b 0) (cs.map γ) := by
  induction cs with
  | nil => trivial
  | cons b cs ih =>
    obtain ⟨g, hg⟩ := h b List.mem_cons_self
    exact ⟨⟨g, hg, hg⟩, ih fun b hb => h b (List.mem_cons_of_mem _ hb)⟩
mutual
theorem top_len : ∀ {s : Sh} {vs us : List Value}, s.Top vs us → us.length = s.cnt
  | .val _, _, _, h => by cases h; rfl
  | .own _ _, _, _, h => by obtain ⟨h1, h2⟩ := h; rw [h1, h2]; rfl
  | .mv _ _, _, _, h => by obtain ⟨h1, h2⟩ := h; rw [h1, h2]; rfl
  | .box _ l, _, _, ⟨v, us', h1, h2, h3⟩ => by rw [h2, List.length_cons, h3]; rfl
  | .fn _ l, _, _, ⟨v, h1, h2⟩ => tops_len (s := l) h2
theorem tops_len : ∀ {s : Shs} {vs us : List Value}, s.Top vs us → us.length = s.cnt
  | .nil, _, _, h => by cases h; rfl
  | .cons s l, _, _, ⟨a, b, c, d, h1, h2, h3, h4, h5⟩ => by rw [h2, List.length_append, top_len h4, tops_len h5]; rfl
end
mutual
theorem kinds_len : ∀ (s : Sh), s.kinds.length = s.cnt
  | .val _ => rfl
  | .own _ _ => rfl
  | .mv _ _ => rfl
  | .box _ l => by simp only [Sh.kinds, List.length_cons, kindss_len l, Sh.cnt]
  | .fn _ l => kindss_len l
theorem kindss_len : ∀ (s : Shs), s.kinds.length = s.cnt
  | .nil => rfl
  | .cons s l => by simp only [Shs.kinds, List.length_append, kinds_len s, kindss_len l, Shs.cnt]
end
mutual
theorem nest_len : ∀ (s : Sh) (i : Bool), (s.nest i).length = s.cnt
  | .val _, _ => rfl
  | .own _ _, _ => rfl
  | .mv _ _, _ => rfl
  | .box _ l, i => by simp only [Sh.nest, List.length_cons, nests_len l true, Sh.cnt]
  | .fn _ l, i => nests_len l i
theorem nests_len : ∀ (s : Shs) (i : Bool), (s.nest i).length = s.cnt
  | .nil, _ => rfl
  | .cons s l, i => by simp only [Shs.nest, List.length_append, nest_len s i, nests_len l i, Shs.cnt]
end
mutual
theorem take_ok (hob : ∀ n o, look ob n = some o → ObOK w Z γ n o) (hz : ∀ k, Z k → Z' k) : ∀ {s : Sh} {l : List Lf} {x : s.T.D} {ns : List Nat} {vs : List Value}, s.take ob l = some (x, ns) → All2 (LfOK w Z γ) l vs →
    (∀ r ∈ rowNames (s.vals ob l), (look ob r).isSome = true → ∀ k, blkV (γ r) = some k → Z' k) → s.Rep w Z' x vs (blks (ns.map γ)) ∧ All2 (KOK ob) s.kinds ns ∧ s.Top vs (ns.map γ) ∧ vs.length = s.w
  | .val t, l, x, ns, vs, h, hl, hn => by
    simp only [Sh.take] at h
    split at h
    · rename_i y hy
      cases h
      obtain ⟨a, b, e, h1, h2⟩ := pack_ok hy (frz_lfs hob hz hl hn)
      cases b with
      | cons _ _ => exact h2.elim
      | nil =>
        rw [List.append_nil] at e
        subst e
        exact ⟨⟨h1, rfl⟩, trivial, rfl, Ty.Rep.length h1⟩
    · cases h
  | .own e t, l, x, ns, vs, h, hl, hn => take_row hob hz h hl
  | .mv e t, l, x, ns, vs, h, hl, hn => take_row hob hz h hl
  | .box T sh, l, x, ns, vs, h, hl, hn => by
    simp only [Sh.take] at h
    split at h
    · rename_i b
      cases vs with
      | nil => exact hl.elim
      | cons v vs =>
        cases vs with
        | cons _ _ => exact hl.2.elim
        | nil =>
          split at h
          · rename_i T' c hlk
            split at h
            · rename_i hT
              have hT := beqt.1 hT
              subst hT
              split at h
              · rename_i y m hy
                cases h
                obtain ⟨g, h1, h2⟩ := hl.1
                obtain ⟨g', cur, h3, h4, h5⟩ := hob b _ hlk
                rw [h1] at h3
                cases h3
                have hn' : ∀ r ∈ rowNames (sh.vals ob c), (look ob r).isSome = true → ∀ k, blkV (γ r) = some k → Z' k := by
                  intro r hr
                  refine hn r ?_
                  simp only [Sh.vals, hlk]
                  exact hr
                obtain ⟨h6, h7, h8, h9⟩ := takes_ok hob hz hy h5 hn'
                refine ⟨⟨g, cur, _, by rw [h2], h4, h6, by simp [blks, h1, blkV]⟩, ⟨⟨T, c, hlk⟩, h7⟩, ⟨v, m.map γ, rfl, by rw [List.map_cons, h1, h2], ?_⟩, rfl⟩
                exact tops_len h8
              · cases h
            · cases h
          · cases h
    · cases h
  | .fn f sh, l, x, ns, vs, h, hl, hn => by
    simp only [Sh.take] at h
    split at h
    · rename_i f' cs
      cases vs with
      | nil => exact hl.elim
      | cons v vs =>
        cases vs with
        | cons _ _ => exact hl.2.elim
        | nil =>
          have h0 : (if Nat.beq f f' = true then sh.take ob (cs.map fun b => .p b 0) else (none : Option (sh.T.D × List Nat))) = some (x, ns) := h
          clear h
          by_cases hf : Nat.beq f f' = true
          · rw [if_pos hf] at h0
            have hf := beqt.1 hf
            subst hf
            have hv := hl.1
            obtain ⟨h6, h7, h8, h9⟩ := takes_ok hob hz h0 (caps_ok hv.2.2) hn
            exact ⟨⟨_, by rw [hv.1], hv.2.1, by simpa using h6⟩, h7, ⟨_, by rw [hv.1], by rw [capsV_W hv.2.1]; simpa using h8⟩, rfl⟩
          · rw [if_neg hf] at h0
            cases h0
    · cases h
theorem take_row (hob : ∀ n o, look ob n = some o → ObOK w Z γ n o) (hz : ∀ k, Z k → Z' k) : ∀ {e : TypeId} {t : Ty} {l : List Lf} {x : List t.D} {ns : List Nat} {vs : List Value}, (match l with | [.o r] => (rowAt? ob e t r).bind fun ys => some (ys, [r]) | _ => none) = some (x, ns) → All2 (LfOK w Z γ) l vs →
    (∃ v us, vs = [v] ∧ w.ownsRow 0 e t.sz v x.length us ∧ RepL (t.Rep w Z') x us ∧ blks (ns.map γ) = (blkV v).toList) ∧ All2 (KOK ob) [some (e, t)] ns ∧ (ns.map γ = vs ∧ vs.length = 1) ∧ vs.length = 1 := by
  intro e t l x ns vs h hl
  split at h
  · rename_i r
    cases vs with
    | nil => exact hl.elim
    | cons v vs =>
      cases vs with
      | cons _ _ => exact hl.2.elim
      | nil =>
        obtain ⟨ys, h1, h2⟩ := Option.bind_eq_some_iff.1 h
        cases h2
        have hlk := rowAt_ok h1
        obtain ⟨us, h3, h4⟩ := hob r _ hlk
        have hv := hl.1.1
        refine ⟨⟨v, us, rfl, by rw [hv]; exact h3, RepL.imp (fun _ _ h => Ty.Rep.stay (Stay.more w hz) h) h4, by simp [blks, hv]⟩, ⟨⟨_, hlk⟩, trivial⟩, ⟨by rw [List.map_cons, List.map_nil, hv], rfl⟩, rfl⟩
  · cases h
theorem takes_ok (hob : ∀ n o, look ob n = some o → ObOK w Z γ n o) (hz : ∀ k, Z k → Z' k) : ∀ {s : Shs} {l : List Lf} {x : s.T.D} {ns : List Nat} {vs : List Value}, s.take ob l = some (x, ns) → All2 (LfOK w Z γ) l vs →
    (∀ r ∈ rowNames (s.vals ob l), (look ob r).isSome = true → ∀ k, blkV (γ r) = some k → Z' k) → s.Rep w Z' x vs (blks (ns.map γ)) ∧ All2 (KOK ob) s.kinds ns ∧ s.Top vs (ns.map γ) ∧ True
  | .nil, l, x, ns, vs, h, hl, _ => by
    simp only [Shs.take] at h
    split at h
    · cases h
      cases vs with
      | nil => exact ⟨⟨rfl, rfl⟩, trivial, rfl, trivial⟩
      | cons _ _ => exact hl.elim
    · cases h
  | .cons s r, l, x, ns, vs, h, hl, hn => by
    simp only [Shs.take] at h
    split at h
    · rename_i y a hy
      split at h
      · rename_i z b hzz
        cases h
        simp only [Shs.vals, rowNames_append] at hn
        obtain ⟨h1, h2, h3, h4⟩ := take_ok hob hz hy (All2.take s.w hl) fun r hr => hn r (List.mem_append_left _ hr)
        obtain ⟨h5, h6, h7, _⟩ := takes_ok hob hz hzz (All2.drop s.w hl) fun r hr => hn r (List.mem_append_right _ hr)
        rw [List.map_append, blks_append]
        exact ⟨⟨_, _, _, _, (List.take_append_drop s.w vs).symm, rfl, h1, h5⟩, All2.append h2 h6, ⟨_, _, _, _, (List.take_append_drop s.w vs).symm, rfl, h4, h3, h7⟩, trivial⟩
      · cases h
    · cases h
end
/-! ### Out of a content -/
theorem allBox_ptr : ∀ {s : Shs} {x : s.T.D} {ps : List Value} {bs : List Nat} {ns : List Nat} {c : List Lf} {ob' : List (Nat × Ob)} {rest : List Nat}, s.allBox = true → s.Rep w Z x ps bs → s.mk ns x = some (c, ob', rest) →
    All2 (LfOK w Z γ') c ps → ps = (c.map capOf).map γ' ∧ ∀ b ∈ c.map capOf, ∃ g, γ' b = .pointer (some ⟨g, 0, none⟩)
  | .nil, x, ps, bs, ns, c, ob', rest, _, hr, hm, hl => by
    simp only [Shs.mk] at hm
    cases hm
    cases ps with
    | nil => exact ⟨rfl, by simp⟩
    | cons _ _ => exact hl.elim
  | .cons s l, x, ps, bs, ns, c, ob', rest, ha, hr, hm, hl => by
    cases s with
    | box T sh =>
      simp only [Shs.allBox] at ha
      simp only [Shs.mk] at hm
      split at hm
      · rename_i c1 ob1 m1 h1
        split at hm
        · rename_i c2 ob2 m2 h2
          cases hm
          simp only [Sh.mk] at h1
          split at h1
          · cases h1
          · rename_i b m
            split at h1
            · rename_i c3 ob3 m3 h3
              cases h1
              obtain ⟨a, b', c', d, e1, e2, h4, h5⟩ := hr
              obtain ⟨g, cur, bs', e3, _⟩ := h4
              subst e1 e3
              obtain ⟨h6, h7⟩ := allBox_ptr ha h5 h2 hl.2
              obtain ⟨g', h8, h9⟩ := hl.1
              refine ⟨?_, ?_⟩
              · simp only [List.cons_append, List.nil_append, List.map_cons, List.cons.injEq]
                exact ⟨by rw [h9]; exact h8.symm, h6⟩
              · intro y hy
                simp only [List.cons_append, List.nil_append, List.map_cons, List.mem_cons] at hy
                rcases hy with rfl | hy
                · exact ⟨g', h8⟩
                · exact h7 y hy
            · cases h1
        · cases hm
      · cases hm
    | _ => cases ha
/-- What the making of a content comes to: the names that are used up; the values that they stand for. -/
def Made (w : World) (Z : Nat → Prop) (s_kinds : List (Option (TypeId × Ty))) (top : List Value → Prop) (ns : List Nat) (vs : List Value) (bs : List Nat) (c : List Lf) (ob' : List (Nat × Ob)) (rest : List Nat) : Prop :=
  ∃ used us, ns = used ++ rest ∧ us.length = used.length ∧ blks us = bs ∧ ob'.map (·.1) = used ∧ All2 KMk s_kinds ob' ∧ top us ∧
    ∀ γ' : Nat → Value, used.map γ' = us → All2 (LfOK w Z γ') c vs ∧ ∀ n o, (n, o) ∈ ob' → ObOK w Z γ' n o
theorem mk_row {e : TypeId} {t : Ty} {x : List t.D} {ns : List Nat} {vs : List Value} {bs : List Nat} {c : List Lf} {ob' : List (Nat × Ob)} {rest : List Nat}
    (hr : ∃ v us, vs = [v] ∧ w.ownsRow 0 e t.sz v x.length us ∧ RepL (t.Rep w Z) x us ∧ bs = (blkV v).toList) (hm : (match ns with | [] => none | r :: m => some ([.o r], [(r, .row e t x)], m)) = some (c, ob', rest)) :
    Made w Z [some (e, t)] (fun us => us = vs ∧ vs.length = 1) ns vs bs c ob' rest := by
  obtain ⟨v, us, e1, h1, h2, h3⟩ := hr
  subst e1
  split at hm
  · cases hm
  · rename_i r m
    cases hm
    refine ⟨[r], [v], rfl, rfl, by simp [blks, h3], rfl, ⟨⟨x, rfl⟩, trivial⟩, ⟨rfl, rfl⟩, fun γ' hg => ?_⟩
    have hg : γ' r = v := by simpa using hg
    refine ⟨⟨⟨hg.symm, ?_⟩, trivial⟩, fun n o hn => ?_⟩
    · rw [hg]
      rcases h1.2 with ⟨e1, _⟩ | ⟨_, _, _, e1, _⟩ <;> exact ⟨_, _, _, e1⟩
    · simp only [List.mem_singleton, Prod.mk.injEq] at hn
      obtain ⟨rfl, rfl⟩ := hn
      exact ⟨us, by rw [hg]; exact h1, h2⟩
theorem rep_w : ∀ {s : Sh} {x : s.T.D} {vs : List Value} {bs : List Nat}, s.Rep w Z x vs bs → vs.length = s.w
  | .val _, _, _, _, h => Ty.Rep.length h.1
  | .own _ _, _, _, _, ⟨v, us, e, _⟩ => by rw [e]; rfl
  | .mv _ _, _, _, _, ⟨v, us, e, _⟩ => by rw [e]; rfl
  | .box _ _, _, _, _, ⟨g, cur, bs', e, _⟩ => by rw [e]; rfl
  | .fn _ _, _, _, _, ⟨ps, e, _⟩ => by rw [e]; rfl
mutual
theorem mk_ok : ∀ {s : Sh} {x : s.T.D} {ns : List Nat} {vs : List Value} {bs : List Nat} {c : List Lf} {ob' : List (Nat × Ob)} {rest : List Nat}, s.Rep w Z x vs bs → s.mk ns x = some (c, ob', rest) → Made w Z s.kinds (s.Top vs) ns vs bs c ob' rest
  | .val t, x, ns, vs, bs, c, ob', rest, hr, hm => by
    simp only [Sh.mk] at hm
    cases hm
    obtain ⟨h1, h2⟩ := hr
    subst h2
    exact ⟨[], [], rfl, rfl, rfl, rfl, trivial, rfl, fun γ' _ => ⟨leaves_ok γ' h1, by simp⟩⟩
  | .own e t, x, ns, vs, bs, c, ob', rest, hr, hm => mk_row hr hm
  | .mv e t, x, ns, vs, bs, c, ob', rest, hr, hm => mk_row hr hm
  | .box T sh, x, ns, vs, bs, c, ob', rest, hr, hm => by
    simp only [Sh.mk] at hm
    split at hm
    · cases hm
    · rename_i b m
      split at hm
      · rename_i c1 ob1 m1 h1
        cases hm
        obtain ⟨g, cur, bs', e1, h2, h3, e2⟩ := hr
        subst e1 e2
        obtain ⟨used, us, e3, h4, h5, h6, h7, h8, h9⟩ := mks_ok h3 h1
        subst e3
        refine ⟨b :: used, .pointer (some ⟨g, 0, none⟩) :: us, rfl, by simp [h4], by simp [blks, blkV] at h5 ⊢; exact h5, by simp [h6], ⟨⟨T, c1, rfl⟩, h7⟩, ⟨_, us, rfl, rfl, tops_len h8⟩, fun γ' hg => ?_⟩
        simp only [List.map_cons, List.cons.injEq] at hg
        obtain ⟨h10, h11⟩ := h9 γ' hg.2
        refine ⟨⟨⟨g, hg.1, rfl⟩, trivial⟩, fun n o hn => ?_⟩
        rcases List.mem_cons.1 hn with hn | hn
        · cases hn; exact ⟨g, cur, hg.1, h2, h10⟩
        · exact h11 n o hn
      · cases hm
  | .fn f sh, x, ns, vs, bs, c, ob', rest, hr, hm => by
    simp only [Sh.mk] at hm
    split at hm
    · rename_i c1 ob1 m1 h1
      split at h1
      · rename_i ha
        cases hm
        obtain ⟨ps, e1, hkw, h2⟩ := hr
        subst e1
        obtain ⟨used, us, e3, h4, h5, h6, h7, h8, h9⟩ := mks_ok h2 h1
        refine ⟨used, us, e3, h4, h5, h6, h7, ⟨_, rfl, by rw [capsV_W hkw]; exact h8⟩, fun γ' hg => ?_⟩
        obtain ⟨h10, h11⟩ := h9 γ' hg
        obtain ⟨h12, h13⟩ := allBox_ptr ha h2 h1 h10
        exact ⟨⟨⟨by rw [← h12], by rw [← h12]; exact hkw, h13⟩, trivial⟩, h11⟩
      · cases h1
    · cases hm
theorem mks_ok : ∀ {s : Shs} {x : s.T.D} {ns : List Nat} {vs : List Value} {bs : List Nat} {c : List Lf} {ob' : List (Nat × Ob)} {rest : List Nat}, s.Rep w Z x vs bs → s.mk ns x = some (c, ob', rest) → Made w Z s.kinds (s.Top vs) ns vs bs c ob' rest
  | .nil, x, ns, vs, bs, c, ob', rest, hr, hm => by
    simp only [Shs.mk] at hm
    cases hm
    obtain ⟨h1, h2⟩ := hr
    subst h1 h2
    exact ⟨[], [], rfl, rfl, rfl, rfl, trivial, rfl, fun γ' _ => ⟨trivial, by simp⟩⟩
  | .cons s l, x, ns, vs, bs, c, ob', rest, hr, hm => by
    simp only [Shs.mk] at hm
    split at hm
    · rename_i c1 ob1 m1 h1
      split at hm
      · rename_i c2 ob2 m2 h2
        cases hm
        obtain ⟨a, b, d, e, e1, e2, h3, h4⟩ := hr
        subst e1 e2
        obtain ⟨used, us, e3, h5, h6, h7, h8, h9, h10⟩ := mk_ok h3 h1
        obtain ⟨used', us', e4, h5', h6', h7', h8', h9', h10'⟩ := mks_ok h4 h2
        subst e3 e4
        refine ⟨used ++ used', us ++ us', by rw [List.append_assoc], by simp [h5, h5'], by rw [blks_append, h6, h6'], by simp [h7, h7'], All2.append h8 h8', ⟨a, b, us, us', rfl, rfl, rep_w h3, h9, h9'⟩, fun γ' hg => ?_⟩
        rw [List.map_append] at hg
        obtain ⟨hg1, hg2⟩ := List.append_inj hg (by simp [h5])
        obtain ⟨h11, h12⟩ := h10 γ' hg1
        obtain ⟨h11', h12'⟩ := h10' γ' hg2
        exact ⟨All2.append h11 h11', fun n o hn => (List.mem_append.1 hn).elim (h12 n o) (h12' n o)⟩
      · cases hm
    · cases hm
end
/-! ### Arguments and results -/
def Shs.TopA : Shs → List Value → List Value → Prop
  | .nil, vs, us => vs = [] ∧ us = []
  | .cons s l, vs, us => ∃ v vs' c d cs, vs = v :: vs' ∧ us = c ++ d ∧ (if s.agg = true then v = .agg (List.toArray cs) else cs = [v]) ∧ s.Top cs c ∧ l.TopA vs' d
theorem beqB_eq {a b : Bool} (h : beqB a b = true) : a = b := by cases a <;> cases b <;> first | rfl | cases h
theorem takeA_ok (hob : ∀ n o, look ob n = some o → ObOK w Z γ n o) (hz : ∀ k, Z k → Z' k) : ∀ {s : Shs} {l : List Slot} {x : s.T.D} {ns : List Nat} {vs : List Value}, s.takeA ob l = some (x, ns) → All2 (SlotOK w Z γ ob) l vs →
    (∀ r ∈ rowNames (s.valsA ob l), (look ob r).isSome = true → ∀ k, blkV (γ r) = some k → Z' k) → s.RepA w Z' x vs (blks (ns.map γ)) ∧ All2 (KOK ob) s.kinds ns ∧ s.TopA vs (ns.map γ)
  | .nil, l, x, ns, vs, h, hl, _ => by
    simp only [Shs.takeA] at h
    split at h
    · cases h
      cases vs with
      | nil => exact ⟨⟨rfl, rfl⟩, trivial, rfl, rfl⟩
      | cons _ _ => exact hl.elim
    · cases h
  | .cons s r, l, x, ns, vs, h, hl, hn => by
    cases l with
    | nil => simp only [Shs.takeA] at h; cases h
    | cons y l =>
      cases vs with
      | nil => exact hl.elim
      | cons v vs =>
        simp only [Shs.takeA] at h
        split at h
        · rename_i cl hcl
          split at h
          · rename_i hag
            have hag := beqB_eq hag
            split at h
            · rename_i z a hy
              split at h
              · rename_i z' b hzz
                cases h
                simp only [Shs.valsA, hcl, rowNames_append] at hn
                obtain ⟨hc1, _⟩ := cells_ok hl.1 hcl
                obtain ⟨h1, h2, h3, h4⟩ := take_ok hob hz hy hc1 fun r hr => hn r (List.mem_append_left _ hr)
                obtain ⟨h5, h6, h7⟩ := takeA_ok hob hz hzz hl.2 fun r hr => hn r (List.mem_append_right _ hr)
                rw [List.map_append, blks_append]
                have hv : if s.agg = true then v = .agg (List.toArray v.cells.toList) else v.cells.toList = [v] := by
                  rw [← hag]
                  cases y with
                  | ag m =>
                    obtain ⟨cs, e, _⟩ := hl.1
                    subst e
                    simp [Slot.isAg, Value.cells]
                  | lf c =>
                    simp only [Slot.isAg, Bool.false_eq_true, if_false]
                    simp only [Slot.cells] at hcl
                    split at hcl
                    · rename_i hk
                      have h1 := LfOK.one hl.1 hk
                      cases v <;> first | rfl | cases h1
                    · cases hcl
                  | _ => cases hcl
                exact ⟨⟨v, vs, _, _, rfl, rfl, ⟨_, hv, h1⟩, h5⟩, All2.append h2 h6, ⟨v, vs, _, _, _, rfl, rfl, hv, h3, h7⟩⟩
              · cases h
            · cases h
          · cases h
        · cases h
theorem slotOf_ok' {ag : Bool} {c : List Lf} {v : Value} {cs : List Value} (h : if ag = true then v = .agg cs.toArray else cs = [v]) (hc : All2 (LfOK w Z γ) c cs) :
    (if ag = true then ∃ cs, v = .agg cs ∧ All2 (LfOK w Z γ) c cs.toList else ∃ d, c = [d] ∧ LfOK w Z γ d v) := by
  cases ag with
  | true => exact ⟨_, h, by simpa using hc⟩
  | false =>
    simp only [Bool.false_eq_true, if_false] at h ⊢
    subst h
    cases c with
    | nil => exact hc.elim
    | cons d c =>
      cases c with
      | nil => exact ⟨d, rfl, hc.1⟩
      | cons _ _ => exact hc.2.elim
theorem mkA_ok : ∀ {s : Shs} {x : s.T.D} {ns : List Nat} {vs : List Value} {bs : List Nat} {c : List (Bool × List Lf)} {ob' : List (Nat × Ob)} {rest : List Nat}, s.RepA w Z x vs bs → s.mkA ns x = some (c, ob', rest) →
    ∃ used us, ns = used ++ rest ∧ us.length = used.length ∧ blks us = bs ∧ ob'.map (·.1) = used ∧ All2 KMk s.kinds ob' ∧
      ∀ γ' : Nat → Value, used.map γ' = us → All2 (fun (y : Bool × List Lf) v => if y.1 = true then ∃ cs, v = .agg cs ∧ All2 (LfOK w Z γ') y.2 cs.toList else ∃ d, y.2 = [d] ∧ LfOK w Z γ' d v) c vs ∧ ∀ n o, (n, o) ∈ ob' → ObOK w Z γ' n o
  | .nil, x, ns, vs, bs, c, ob', rest, hr, hm => by
    simp only [Shs.mkA] at hm
    cases hm
    obtain ⟨h1, h2⟩ := hr
    subst h1 h2
    exact ⟨[], [], rfl, rfl, rfl, rfl, trivial, fun γ' _ => ⟨trivial, by simp⟩⟩
  | .cons s l, x, ns, vs, bs, c, ob', rest, hr, hm => by
    simp only [Shs.mkA] at hm
    split at hm
    · rename_i c1 ob1 m1 h1
      split at hm
      · rename_i c2 ob2 m2 h2
        cases hm
        obtain ⟨v, vs', d, e, e1, e2, ⟨cs, hv, h3⟩, h4⟩ := hr
        subst e1 e2
        obtain ⟨used, us, e3, h5, h6, h7, h8, h9, h10⟩ := mk_ok h3 h1
        obtain ⟨used', us', e4, h5', h6', h7', h8', h10'⟩ := mkA_ok h4 h2
        subst e3 e4
        refine ⟨used ++ used', us ++ us', by rw [List.append_assoc], by simp [h5, h5'], by rw [blks_append, h6, h6'], by simp [h7, h7'], All2.append h8 h8', fun γ' hg => ?_⟩
        rw [List.map_append] at hg
        obtain ⟨hg1, hg2⟩ := List.append_inj hg (by simp [h5])
        obtain ⟨h11, h12⟩ := h10 γ' hg1
        obtain ⟨h11', h12'⟩ := h10' γ' hg2
        exact ⟨⟨slotOf_ok' hv h11, h11'⟩, fun n o hn => (List.mem_append.1 hn).elim (h12 n o) (h12' n o)⟩
      · cases hm
    · cases hm
/-! ### Names that are given -/
theorem nodupB_ok : ∀ {l : List Nat}, nodupB l = true → l.Nodup
  | [], _ => List.nodup_nil
  | n :: l, h => by
    simp only [nodupB, Bool.and_eq_true, Bool.not_eq_true', List.any_eq_false] at h
    exact List.nodup_cons.2 ⟨fun hm => h.1 n hm (beqt.2 rfl), nodupB_ok h.2⟩
/-- Values for names. -/
def upds (γ : Nat → Value) : List Nat → List Value → Nat → Value
  | n :: l, v :: vs => fun m => if m = n then v else upds γ l vs m
  | _, _ => γ
theorem upds_out (γ : Nat → Value) : ∀ (l : List Nat) (vs : List Value) (m : Nat), m ∉ l → upds γ l vs m = γ m
  | [], _, _, _ => rfl
  | _ :: _, [], _, _ => rfl
  | n :: l, v :: vs, m, h => by
    simp only [List.mem_cons, not_or] at h
    simp only [upds, if_neg h.1]
    exact upds_out γ l vs m h.2
theorem upds_in (γ : Nat → Value) : ∀ {l : List Nat} {vs : List Value}, l.Nodup → vs.length = l.length → l.map (upds γ l vs) = vs
  | [], [], _, _ => rfl
  | n :: l, v :: vs, h, hl => by
    obtain ⟨h1, h2⟩ := List.nodup_cons.1 h
    have ih := upds_in γ h2 (by simpa using hl)
    simp only [List.map_cons, upds, if_true]
    congr 1
    conv => rhs; rw [← ih]
    exact List.map_congr_left fun m hm => if_neg (fun (e : m = n) => h1 (e ▸ hm))
  | [], _ :: _, _, hl => by simp at hl
  | _ :: _, [], _, hl => by simp at hl
/-- No two names have one block. -/
theorem blks_disj {γ : Nat → Value} : ∀ {l : List Nat}, (blks (l.map γ)).Nodup → ∀ n m b, n ∈ l → m ∈ l → blkV (γ n) = some b → blkV (γ m) = some b → n = m
  | [], _, n, m, b, hn, _, _, _ => by simp at hn
  | k :: l, h, n, m, b, hn, hm, h1, h2 => by
    have e : blks ((k :: l).map γ) = (blkV (γ k)).toList ++ blks (l.map γ) := rfl
    rw [e] at h
    have hmem : ∀ j, j ∈ l → blkV (γ j) = some b → b ∈ blks (l.map γ) := fun j hj hb => by
      simp only [blks, List.mem_flatMap, List.mem_map]
      exact ⟨_, ⟨j, hj, rfl⟩, by simp [hb]⟩
    obtain ⟨_, h4, h5⟩ := List.nodup_append.1 h
    rcases List.mem_cons.1 hn with e1 | hn' <;> rcases List.mem_cons.1 hm with e2 | hm'
    · rw [e1, e2]
    · subst e1; exact absurd rfl (h5 b (by simp [h1]) b (hmem m hm' h2))
    · subst e2; exact absurd rfl (h5 b (by simp [h2]) b (hmem n hn' h1))
    · exact blks_disj h4 n m b hn' hm' h1 h2
theorem mem_blks {γ : Nat → Value} {l : List Nat} {b : Nat} : b ∈ blks (l.map γ) ↔ ∃ n ∈ l, blkV (γ n) = some b := by
  simp only [blks, List.mem_flatMap, List.mem_map]
  constructor
  · rintro ⟨v, ⟨n, hn, rfl⟩, hb⟩
    exact ⟨n, hn, by simpa using hb⟩
  · rintro ⟨n, hn, hb⟩
    exact ⟨_, ⟨n, hn, rfl⟩, by simp [hb]⟩
/-- No two of them have one block, and all of these are told apart by name. -/
theorem blks_nodup {γ : Nat → Value} : ∀ {l : List Nat}, l.Nodup → (∀ n m b, n ∈ l → m ∈ l → blkV (γ n) = some b → blkV (γ m) = some b → n = m) → (blks (l.map γ)).Nodup
  | [], _, _ => List.nodup_nil
  | k :: l, h, hd => by
    obtain ⟨h1, h2⟩ := List.nodup_cons.1 h
    have e : blks ((k :: l).map γ) = (blkV (γ k)).toList ++ blks (l.map γ) := rfl
    rw [e]
    refine List.nodup_append.2 ⟨by cases blkV (γ k) <;> simp, blks_nodup h2 fun n m b hn hm => hd n m b (List.mem_cons_of_mem _ hn) (List.mem_cons_of_mem _ hm), ?_⟩
    rintro b hb _ hb' rfl
    obtain ⟨n, hn, hbn⟩ := mem_blks.1 hb'
    have := hd k n b List.mem_cons_self (List.mem_cons_of_mem _ hn) (by simpa using hb) hbn
    subst this
    exact h1 hn
end
end Go.GV
