/-
GV: a place that has a name: what is kept, and the names given anew. (This session's own text.)
-/
import Derived.Test.YtkkfgajlnpcpcaaGreatDoorGvWalk
set_option linter.unusedVariables false
set_option linter.unusedSimpArgs false
namespace Go.GV
section
variable {w w0 : World} {M Z0 Z : Nat → Prop} {γ γ' γ0 : Nat → Value} {m : Nat} {s s' : St} {a : Act}
theorem All2.set_left {α β : Type} {R : α → β → Prop} : ∀ {l : List α} {m : List β} {j : Nat} {x : α} {v : β}, All2 R l m → m[j]? = some v → R x v → All2 R (l.set j x) m
  | [], [], _, _, _, _, hv, _ => by simp at hv
  | a :: l, b :: m, 0, x, v, h, hv, hx => by
    simp only [List.getElem?_cons_zero, Option.some.injEq] at hv
    subst hv
    exact ⟨hx, h.2⟩
  | a :: l, b :: m, j + 1, x, v, h, hv, hx => by
    simp only [List.getElem?_cons_succ] at hv
    exact ⟨h.1, All2.set_left h.2 hv hx⟩
  | [], _ :: _, _, _, _, h, _, _ => h.elim
  | _ :: _, [], _, _, _, h, _, _ => h.elim
theorem prep_ok (hm : m ≤ 1000) {n i : Nat} {k : Keep} (hn : 1000 ≤ n) (h : prep s n i k = some s') (hg : Good w0 M Z0 γ0 m s a w) : Good w0 M Z0 γ0 m s' a w := by
  obtain ⟨⟨Z, γ, hi, hs, hγ⟩, hb, hd⟩ := id hg
  cases k with
  | as => simp only [prep] at h; cases h; exact hg
  | frz =>
    simp only [prep] at h
    split at h
    · rename_i l hl
      cases h
      obtain ⟨Z', _, h2, h3⟩ := frzAll_ok l hi hs
      exact ⟨⟨Z', γ, h2, h3, hγ⟩, by rw [frzAll_b]; exact hb, hd⟩
    · cases h
  | val t =>
    simp only [prep] at h
    split at h
    · rename_i c hc
      split at h
      · rename_i c' hc'
        split at h
        · rename_i x hx
          cases h
          obtain ⟨Z', _, h2, h3⟩ := frzAll_ok [c] hi hs
          have hsl := h3.ok i
          rw [show (s.frzAll [c]).sl.getD i (.lf .u) = .lf c' from hc'] at hsl
          exact ⟨⟨Z', γ, h2, setd_same h3 (as_ok hx hsl), hγ⟩, by show 1000 ≤ (s.frzAll [c]).b; rw [frzAll_b]; exact hb, hd⟩
        · cases h
      · cases h
    · cases h
  | own e t =>
    simp only [prep] at h
    split at h
    · rename_i hc
      split at h
      · rename_i hf
        cases h
        have hmk := make_ok (w' := w) (N := fun _ => False) (v := .slice none 0 0) (b := .row e t []) hi hs hf (Frm.refl _ _) (fun _ _ h => h) (fun _ hn => hn.elim)
          ⟨[], by rw [upd_self]; exact World.ownsRow_nil w 0 e t.sz, rfl⟩ (fun k hk => by cases hk)
        have hsl := hs.ok i
        rw [show s.sl.getD i (.lf .u) = .lf .nl from hc] at hsl
        exact ⟨⟨Z, _, hmk.1, setd_same hmk.2 ⟨by rw [upd_self]; exact hsl, by rw [upd_self]; exact ⟨_, _, _, rfl⟩⟩, fun j hj => (upd_ne (by omega)).trans (hγ j hj)⟩, hb, hd⟩
      · cases h
    · cases h; exact hg
    · rename_i r k hc
      split at h
      · rename_i xs hx
        split at h
        · rename_i hf
          cases h
          have hlk := rowAt_ok hx
          obtain ⟨cs, how, hrl⟩ := hi.obs r _ hlk
          have hsl := hs.ok i
          rw [show s.sl.getD i (.lf .u) = .lf (.oh r k) from hc] at hsl
          obtain ⟨A, n', cp, h3, h4, h5, h6⟩ := id hsl
          rw [h3] at how
          have hn' : n' = xs.length := by
            rcases how.2 with ⟨e1, e2⟩ | ⟨_, _, _, e1, _⟩
            · cases e1; exact e2.symm
            · cases e1; rfl
          subst hn'
          have hmk := make_ok (w' := w) (N := fun k' => blkV (γ r) = some k') (ob1 := del s.ob r) (v := .slice A k.toNat cp) (b := .row e t (xs.take k.toNat)) hi hs hf ((Frm.refl (fun _ => False) w).mono fun _ _ h => h.elim)
            (fun n b hn => by
              rw [look_del] at hn
              by_cases hrn : r = n
              · rw [if_pos hrn] at hn; cases hn
              · rwa [if_neg hrn] at hn)
            (fun k' hk => ⟨(hi.own r _ k' hlk hk).1, (hi.own r _ k' hlk hk).2, fun n b' hn hk' => by
              rw [look_del] at hn
              by_cases hrn : r = n
              · rw [if_pos hrn] at hn; cases hn
              · rw [if_neg hrn] at hn
                exact hrn (hi.disj r n _ b' k' hlk hn hk hk')⟩)
            ⟨cs.take (k.toNat * t.sz), by rw [upd_self, List.length_take, Nat.min_eq_left h6]; exact own_prefix how k.toNat h6, RepL.take (fun _ _ h => Ty.Rep.length h) hrl k.toNat⟩
            (fun k' hk => .inl (by rw [h3]; cases A <;> simp [blkV] at hk ⊢ <;> exact hk))
          exact ⟨⟨Z, _, hmk.1, setd_same hmk.2 ⟨by rw [upd_self]; exact h4, by rw [upd_self]; exact ⟨_, _, _, rfl⟩⟩, fun j hj => (upd_ne (by omega)).trans (hγ j hj)⟩, hb, hd⟩
        · cases h
      · cases h
    · cases h
  | bown e t j =>
    simp only [prep] at h
    split at h
    · rename_i b hc
      split at h
      · rename_i T l hl
        split at h
        · rename_i hj
          split at h
          · rename_i hf
            cases h
            rw [Bool.and_eq_true] at hf
            obtain ⟨hf, hnb⟩ := hf
            have hnb : ¬ n = b := by
              rintro rfl
              rw [beqt.2 rfl] at hnb
              cases hnb
            have hmk := make_ok (w' := w) (N := fun _ => False) (v := .slice none 0 0) (b := .row e t []) hi hs hf (Frm.refl _ _) (fun _ _ h => h) (fun _ hn => hn.elim)
              ⟨[], by rw [upd_self]; exact World.ownsRow_nil w 0 e t.sz, rfl⟩ (fun k hk => by cases hk)
            have hl2 : look (s.withOb (put s.ob n (.row e t []))).ob b = some (.box T l) := by
              show look (put s.ob n (.row e t [])) b = _
              rw [look_put, if_neg hnb, hl]
            obtain ⟨g2, cur, h6, h7, h8⟩ := hmk.1.obs b _ hl2
            have hrw := rewrite_ok (s := s.withOb (put s.ob n (.row e t []))) (w' := w) (n := b) (b := .box T (l.set j (.o n))) hmk.1 hmk.2 hl2 ((Frm.refl (fun _ => False) w).mono fun _ _ h => h.elim)
              ⟨g2, cur, h6, h7, by
                have hjl := (List.getElem?_eq_some_iff.1 hj).1
                have hlen := All2.length h8
                have hjv : cur.toList[j]? = some (.slice none 0 0) := by
                  have hjc : j < cur.toList.length := by omega
                  have := All2.get j _ cur.toList[j] h8 hj (List.getElem?_eq_getElem hjc)
                  rw [List.getElem?_eq_getElem hjc]
                  exact congrArg some this
                exact All2.set_left h8 hjv ⟨by rw [upd_self], by rw [upd_self]; exact ⟨_, _, _, rfl⟩⟩⟩ (fun _ _ _ e => by cases e)
            exact ⟨⟨Z, _, hrw.1, hrw.2, fun j hj => (upd_ne (by omega)).trans (hγ j hj)⟩, hb, hd⟩
          · cases h
        · cases h; exact hg
        · rename_i r k hj
          split at h
          · rename_i xs hx
            split at h
            · rename_i hf
              cases h
              rw [Bool.and_eq_true] at hf
              obtain ⟨hf, hnb⟩ := hf
              have hnb : ¬ n = b := by
                rintro rfl
                rw [beqt.2 rfl] at hnb
                cases hnb
              have hlk := rowAt_ok hx
              have hrb : r ≠ b := by
                rintro rfl
                rw [hl] at hlk
                cases hlk
              obtain ⟨cs, how, hrl⟩ := hi.obs r _ hlk
              obtain ⟨g0, cur0, h60, h70, h80⟩ := hi.obs b _ hl
              have hjl0 := (List.getElem?_eq_some_iff.1 hj).1
              have hjc0 : j < cur0.toList.length := by have := All2.length h80; omega
              obtain ⟨A, n', cp, h3, h4, h5, h6⟩ := All2.get j _ cur0.toList[j] h80 hj (List.getElem?_eq_getElem hjc0)
              rw [h3] at how
              have hn' : n' = xs.length := by
                rcases how.2 with ⟨e1, e2⟩ | ⟨_, _, _, e1, _⟩
                · cases e1; exact e2.symm
                · cases e1; rfl
              subst hn'
              have hmk := make_ok (w' := w) (N := fun k' => blkV (γ r) = some k') (ob1 := del s.ob r) (v := .slice A k.toNat cp) (b := .row e t (xs.take k.toNat)) hi hs hf ((Frm.refl (fun _ => False) w).mono fun _ _ h => h.elim)
                (fun n b hn => by
                  rw [look_del] at hn
                  by_cases hrn : r = n
                  · rw [if_pos hrn] at hn; cases hn
                  · rwa [if_neg hrn] at hn)
                (fun k' hk => ⟨(hi.own r _ k' hlk hk).1, (hi.own r _ k' hlk hk).2, fun n b' hn hk' => by
                  rw [look_del] at hn
                  by_cases hrn : r = n
                  · rw [if_pos hrn] at hn; cases hn
                  · rw [if_neg hrn] at hn
                    exact hrn (hi.disj r n _ b' k' hlk hn hk hk')⟩)
                ⟨cs.take (k.toNat * t.sz), by rw [upd_self, List.length_take, Nat.min_eq_left h6]; exact own_prefix how k.toNat h6, RepL.take (fun _ _ h => Ty.Rep.length h) hrl k.toNat⟩
                (fun k' hk => .inl (by rw [h3]; cases A <;> simp [blkV] at hk ⊢ <;> exact hk))
              have hl2 : look (s.withOb (put (del s.ob r) n (.row e t (xs.take k.toNat)))).ob b = some (.box T l) := by
                show look (put (del s.ob r) n (.row e t (xs.take k.toNat))) b = _
                rw [look_put, if_neg hnb, look_del, if_neg hrb, hl]
              obtain ⟨g2, cur, h7, h8, h9⟩ := hmk.1.obs b _ hl2
              have hcur : cur = cur0 := by
                rw [upd_ne (Ne.symm hnb), h60] at h7
                cases h7
                rw [h70] at h8
                cases h8
                rfl
              subst hcur
              have hrw := rewrite_ok (s := s.withOb (put (del s.ob r) n (.row e t (xs.take k.toNat)))) (w' := w) (n := b) (b := .box T (l.set j (.o n))) hmk.1 hmk.2 hl2 ((Frm.refl (fun _ => False) w).mono fun _ _ h => h.elim)
                ⟨g2, cur, h7, h8, All2.set_left h9 (List.getElem?_eq_getElem hjc0) ⟨by rw [upd_self]; exact h4, by rw [upd_self]; exact ⟨_, _, _, rfl⟩⟩⟩ (fun _ _ _ e => by cases e)
              exact ⟨⟨Z, _, hrw.1, hrw.2, fun j hj => (upd_ne (by omega)).trans (hγ j hj)⟩, hb, hd⟩
            · cases h
          · cases h
        · cases h
      · cases h
    · cases h; exact hg
    · cases h
theorem prepL_ok (hm : m ≤ 1000) : ∀ {l : List (Nat × Keep)} {n : Nat} {s s' : St}, 1000 ≤ n → prepL s n l = some s' → Good w0 M Z0 γ0 m s a w → Good w0 M Z0 γ0 m s' a w
  | [], n, s, s', _, h, hg => by simp only [prepL] at h; cases h; exact hg
  | (i, k) :: l, n, s, s', hn, h, hg => by
    simp only [prepL] at h
    split at h
    · rename_i s1 h1
      exact prepL_ok hm (by omega) h (prep_ok hm hn h1 hg)
    · cases h
/-! ### Names anew -/
theorem place_get {n : Nat} : ∀ {ρ : List Nat} {k j : Nat}, place n ρ k = some j → k ≤ j ∧ ρ[j - k]? = some n
  | [], k, j, h => by cases h
  | x :: ρ, k, j, h => by
    simp only [place] at h
    split at h
    · rename_i hx
      cases h
      exact ⟨Nat.le_refl _, by simp [beqt.1 hx]⟩
    · obtain ⟨h1, h2⟩ := place_get h
      refine ⟨by omega, ?_⟩
      rw [show j - k = (j - (k + 1)) + 1 by omega, List.getElem?_cons_succ]
      exact h2
/-- The values by the new names. -/
def gren (γ : Nat → Value) (ρ : List Nat) : Nat → Value := fun j => match ρ[j]? with | some n => γ n | none => .tuple #[]
theorem gren_place {ρ : List Nat} {n j : Nat} (h : place n ρ 0 = some j) : gren γ ρ j = γ n := by
  have := (place_get h).2
  simp only [Nat.sub_zero] at this
  simp only [gren, this]
theorem places_ren {ρ : List Nat} : ∀ {cs js : List Nat}, places_ ρ cs = some js → js.map (gren γ ρ) = cs.map γ
  | [], js, h => by simp only [places_] at h; cases h; rfl
  | c :: cs, js, h => by
    simp only [places_] at h
    split at h
    · rename_i j r h1 h2
      cases h
      rw [List.map_cons, List.map_cons, gren_place h1, places_ren h2]
    · cases h
theorem ren_lf {ρ : List Nat} {c : Lf} {v : Value} (h : LfOK w Z γ c v) : LfOK w Z (gren γ ρ) (c.ren ρ) v := by
  cases c with
  | o r =>
    simp only [Lf.ren]
    split
    · rename_i j hj; simpa only [LfOK, gren_place hj] using h
    · trivial
  | oh r k =>
    simp only [Lf.ren]
    split
    · rename_i j hj; simpa only [LfOK, gren_place hj] using h
    · trivial
  | ot r k z =>
    simp only [Lf.ren]
    split
    · rename_i j hj; simpa only [LfOK, gren_place hj] using h
    · trivial
  | p b off =>
    simp only [Lf.ren]
    split
    · rename_i j hj; simpa only [LfOK, gren_place hj] using h
    · trivial
  | fn f cs =>
    simp only [Lf.ren]
    split
    · rename_i js hjs
      have e := places_ren (γ := γ) hjs
      refine ⟨h.1.trans (by rw [e]), by rw [e]; exact h.2.1, fun b hb => ?_⟩
      have : gren γ ρ b ∈ cs.map γ := by rw [← e]; exact List.mem_map.2 ⟨b, hb, rfl⟩
      obtain ⟨c, hc, e2⟩ := List.mem_map.1 this
      rw [← e2]
      exact h.2.2 c hc
    · trivial
  | _ => exact h
theorem ren_lfs {ρ : List Nat} {l : List Lf} {vs : List Value} (h : All2 (LfOK w Z γ) l vs) : All2 (LfOK w Z (gren γ ρ)) (l.map (Lf.ren ρ)) vs := All2.map _ (fun _ _ _ h => ren_lf h) h
theorem look_renOb {ob : List (Nat × Ob)} {ρ : List Nat} {n : Nat} {o : Ob} : ∀ {l : List Nat} {j : Nat}, look (renOb ob ρ j l) n = some o → j ≤ n ∧ ∃ k o0, l[n - j]? = some k ∧ look ob k = some o0 ∧ o = o0.map (Lf.ren ρ)
  | [], j, h => by cases h
  | k :: l, j, h => by
    simp only [renOb] at h
    split at h
    · rename_i o0 ho
      simp only [look] at h
      split at h
      · rename_i hj
        cases h
        have := beqt.1 hj
        subst this
        exact ⟨Nat.le_refl _, k, o0, by simp, ho, rfl⟩
      · obtain ⟨h1, k', o1, h2, h3⟩ := look_renOb h
        refine ⟨by omega, k', o1, ?_, h3⟩
        rw [show n - j = (n - (j + 1)) + 1 by omega, List.getElem?_cons_succ]
        exact h2
    · obtain ⟨h1, k', o1, h2, h3⟩ := look_renOb h
      refine ⟨by omega, k', o1, ?_, h3⟩
      rw [show n - j = (n - (j + 1)) + 1 by omega, List.getElem?_cons_succ]
      exact h2
theorem dedup_spec : ∀ (l a : List Nat), a.Nodup → (dedup a l).Nodup ∧ ∃ r, dedup a l = a ++ r
  | [], a, h => ⟨h, [], by simp [dedup]⟩
  | n :: l, a, h => by
    simp only [dedup]
    split
    · exact dedup_spec l a h
    · rename_i hn
      obtain ⟨h1, r, h2⟩ := dedup_spec l (a ++ [n]) (List.nodup_append.2 ⟨h, by simp, fun x hx y hy e => hn (List.any_eq_true.2 ⟨x, hx, beqt.2 (by simp at hy; rw [e, hy])⟩)⟩)
      exact ⟨h1, [n] ++ r, by rw [h2, List.append_assoc]⟩
theorem upto_get : ∀ (k i : Nat), i < k → (upto k)[i]? = some i
  | 0, i, h => by omega
  | k + 1, i, h => by
    have hl : ∀ k, (upto k).length = k := by intro k; induction k with | zero => rfl | succ k ih => simp [upto, ih]
    simp only [upto]
    by_cases hi : i < k
    · rw [List.getElem?_append_left (by rw [hl]; exact hi)]
      exact upto_get k i hi
    · have : i = k := by omega
      subst this
      rw [List.getElem?_append_right (by rw [hl]; exact Nat.le_refl _), hl]
      simp
theorem upto_len : ∀ k, (upto k).length = k := by intro k; induction k with | zero => rfl | succ k ih => simp [upto, ih]
theorem upto_mem : ∀ (k n : Nat), n ∈ upto k → n < k
  | 0, _, h => by simp [upto] at h
  | k + 1, n, h => by
    simp only [upto, List.mem_append, List.mem_singleton] at h
    rcases h with h | h
    · exact Nat.lt_succ_of_lt (upto_mem k n h)
    · omega
theorem upto_nodup : ∀ (k : Nat), (upto k).Nodup
  | 0 => List.nodup_nil
  | k + 1 => List.nodup_append.2 ⟨upto_nodup k, by simp, fun x hx y hy e => by
    have := upto_mem k x hx
    simp at hy
    omega⟩
theorem renSl_get {ρ live : List Nat} : ∀ (l : List Slot) (k i : Nat), (renSl ρ live k l).getD i (.lf .u) = .lf .u ∨ ∃ x, l[i]? = some x ∧ (renSl ρ live k l).getD i (.lf .u) = x.ren ρ
  | [], k, i => .inl (by simp [renSl])
  | x :: l, k, 0 => by
    simp only [renSl, List.getD_cons_zero]
    split
    · exact .inr ⟨x, rfl, rfl⟩
    · exact .inl rfl
  | x :: l, k, i + 1 => by
    simp only [renSl, List.getD_cons_succ, List.getElem?_cons_succ]
    exact renSl_get l (k + 1) i
theorem renSl_len {ρ live : List Nat} : ∀ (l : List Slot) (k : Nat), (renSl ρ live k l).length = l.length
  | [], _ => rfl
  | x :: l, k => by simp [renSl, renSl_len l (k + 1)]
theorem canon_ok {live : List Nat} (hg : Good w0 M Z0 γ0 m s a w) : Good w0 M Z0 γ0 m (s.canon m live) a w := by
  obtain ⟨⟨Z, γ, hi, hs, hγ⟩, hb, hd⟩ := hg
  unfold St.canon
  obtain ⟨ρ, hρ⟩ : ∃ ρ, ρ = dedup (upto m) (namesOf s.ob 4 (s.lfs live)) := ⟨_, rfl⟩
  rw [← hρ]
  obtain ⟨hnd, r, hpre⟩ := dedup_spec (namesOf s.ob 4 (s.lfs live)) (upto m) (upto_nodup m)
  rw [← hρ] at hnd hpre
  have hlk : ∀ n o, look (renOb s.ob ρ 0 ρ) n = some o → ∃ k o0, ρ[n]? = some k ∧ look s.ob k = some o0 ∧ o = o0.map (Lf.ren ρ) ∧ gren γ ρ n = γ k := by
    intro n o h
    obtain ⟨_, k, o0, h1, h2, h3⟩ := look_renOb h
    rw [Nat.sub_zero] at h1
    exact ⟨k, o0, h1, h2, h3, by simp only [gren, h1]⟩
  refine ⟨⟨Z, gren γ ρ, ⟨hi.frm, hi.zlt, hi.zold, ?_, ?_, ?_⟩, ⟨by rw [renSl_len]; exact hs.len, fun i => ?_⟩, fun n hn => ?_⟩, hb, hd⟩
  · intro n o h
    obtain ⟨k, o0, h1, h2, h3, h4⟩ := hlk n o h
    have := hi.obs k o0 h2
    subst h3
    cases o0 with
    | row E t xs => obtain ⟨cs, h5, h6⟩ := this; exact ⟨cs, by rw [h4]; exact h5, h6⟩
    | box T l => obtain ⟨g, cur, h5, h6, h7⟩ := this; exact ⟨g, cur, h4.trans h5, h6, ren_lfs h7⟩
  · intro n n' o o' b h h' hb1 hb2
    obtain ⟨k, o0, h1, h2, _, h4⟩ := hlk n o h
    obtain ⟨k', o0', h1', h2', _, h4'⟩ := hlk n' o' h'
    rw [h4] at hb1
    rw [h4'] at hb2
    have := hi.disj k k' o0 o0' b h2 h2' hb1 hb2
    subst this
    exact (List.getElem?_inj (List.getElem?_eq_some_iff.1 h1).1 hnd).1 (h1.trans h1'.symm)
  · intro n o b h hb1
    obtain ⟨k, o0, h1, h2, _, h4⟩ := hlk n o h
    rw [h4] at hb1
    exact hi.own k o0 b h2 hb1
  · rcases renSl_get (ρ := ρ) (live := live) s.sl 0 i with h | ⟨x, hx, h⟩
    · rw [h]; trivial
    · rw [h]
      have hok := hs.ok i
      rw [List.getD_eq_getElem?_getD, hx, Option.getD_some] at hok
      cases x with
      | lf c => exact ren_lf hok
      | ag l => obtain ⟨cs, e, hl⟩ := hok; exact ⟨cs, e, ren_lfs hl⟩
      | tp l =>
        obtain ⟨vs, e, hl⟩ := hok
        refine ⟨vs, e, All2.map _ (fun y _ v h => ?_) hl⟩
        dsimp only
        split at h
        · rename_i hb
          rw [if_pos hb]
          obtain ⟨cs, e, h⟩ := h
          exact ⟨cs, e, ren_lfs h⟩
        · rename_i hb
          rw [if_neg hb]
          obtain ⟨c, e, h⟩ := h
          exact ⟨_, by rw [e]; rfl, ren_lf h⟩
      | q l => obtain ⟨ad, vs, e, hz, hl, hc⟩ := hok; exact ⟨ad, vs, e, hz, ren_lfs hl, hc⟩
      | e r j off =>
        simp only [Slot.ren]
        split
        · rename_i j' hj'
          intro E t xs hx
          obtain ⟨k, o0, h1, h2, h3, h4⟩ := hlk j' _ hx
          have h5 := (place_get hj').2
          rw [Nat.sub_zero, h1] at h5
          cases h5
          cases o0 with
          | box T l => cases h3
          | row E' t' xs' =>
            cases h3
            rw [h4]
            exact hok E t xs h2
        · trivial
  · have h1 : ρ[n]? = some n := by rw [hpre, List.getElem?_append_left (by rw [upto_len]; exact hn)]; exact upto_get m n hn
    simp only [gren, h1]
    exact hγ n hn
theorem at_ok (hm : m ≤ 1000) {k : List (Nat × Keep)} (h : atPlace s m k = some s') (hg : Good w0 M Z0 γ0 m s a w) : Good w0 M Z0 γ0 m s' a w := by
  unfold atPlace at h
  split at h
  · rename_i s1 h1
    cases h
    exact canon_ok (prepL_ok hm (by omega) h1 hg)
  · cases h
end
end Go.GV
