/-
GV: a function's begin and end. (This session's own text.)
-/
import Derived.Test.YtkkfgajlnpcpcaaGreatDoorGvPlace
set_option linter.unusedVariables false
set_option linter.unusedSimpArgs false
namespace Go.GV
section
variable {P : Program} {E : Env} {w w0 : World} {M Z0 Z : Nat → Prop} {γ γ' γ0 : Nat → Value} {m : Nat} {s s' : St} {a : Act}
/-! ### The names of what was handed over -/
theorem refs_lt : ∀ (l : Shs) (n i : Nat), l.allBox = true → i ∈ l.refs n → i < n + l.cnt
  | .nil, n, i, _, h => by simp [Shs.refs] at h
  | .cons (.box T sh) l, n, i, ha, h => by
    simp only [Shs.allBox] at ha
    simp only [Shs.refs, List.mem_cons] at h
    rcases h with h | h
    · simp only [Shs.cnt, Sh.cnt]; omega
    · have := refs_lt l _ i ha h
      simp only [Shs.cnt]; omega
  | .cons (.val _) _, _, _, ha, _ => by cases ha
  | .cons (.own _ _) _, _, _, ha, _ => by cases ha
  | .cons (.mv _ _) _, _, _, ha, _ => by cases ha
  | .cons (.fn _ _) _, _, _, ha, _ => by cases ha
mutual
theorem mk_rest : ∀ {s : Sh} {x : s.T.D} {n k : Nat} {c : List Lf} {ob : List (Nat × Ob)} {rest : List Nat}, s.mk (List.range' n k) x = some (c, ob, rest) → s.cnt ≤ k ∧ rest = List.range' (n + s.cnt) (k - s.cnt) ∧
    ((match s with | .val _ => true | _ => false) = true ∨ c = [s.ref n]) ∧ ∀ j, (s.ref n).names j = true → j < n + s.cnt
  | .val t, x, n, k, c, ob, rest, h => by
    simp only [Sh.mk] at h
    cases h
    exact ⟨Nat.zero_le _, rfl, .inl rfl, fun j hj => by simp [Sh.ref, Lf.names] at hj⟩
  | .own e t, x, n, 0, c, ob, rest, h => by simp [Sh.mk] at h
  | .own e t, x, n, k + 1, c, ob, rest, h => by
    simp only [Sh.mk, List.range'_succ] at h
    cases h
    exact ⟨by simp [Sh.cnt], rfl, .inr rfl, fun j hj => by simp only [Sh.ref, Lf.names, beqt] at hj; simp only [Sh.cnt]; omega⟩
  | .mv e t, x, n, 0, c, ob, rest, h => by simp [Sh.mk] at h
  | .mv e t, x, n, k + 1, c, ob, rest, h => by
    simp only [Sh.mk, List.range'_succ] at h
    cases h
    exact ⟨by simp [Sh.cnt], rfl, .inr rfl, fun j hj => by simp only [Sh.ref, Lf.names, beqt] at hj; simp only [Sh.cnt]; omega⟩
  | .box T sh, x, n, 0, c, ob, rest, h => by simp [Sh.mk] at h
  | .box T sh, x, n, k + 1, c, ob, rest, h => by
    simp only [Sh.mk, List.range'_succ] at h
    split at h
    · rename_i c1 ob1 m1 h1
      cases h
      obtain ⟨h2, h3, _⟩ := mks_rest h1
      refine ⟨by simp only [Sh.cnt]; omega, ?_, .inr rfl, fun j hj => by simp only [Sh.ref, Lf.names, beqt] at hj; simp only [Sh.cnt]; omega⟩
      rw [h3]
      simp only [Sh.cnt]
      congr 1 <;> omega
    · cases h
  | .fn f sh, x, n, k, c, ob, rest, h => by
    simp only [Sh.mk] at h
    split at h
    · rename_i c1 ob1 m1 h1
      split at h1
      · rename_i ha
        cases h
        obtain ⟨h2, h3, h4⟩ := mks_rest h1
        refine ⟨h2, h3, .inr ?_, fun j hj => ?_⟩
        · rw [h4 ha]
          rfl
        · simp only [Sh.ref, Lf.names, List.any_eq_true] at hj
          obtain ⟨i, hi, hb⟩ := hj
          rw [beqt.1 hb]
          exact refs_lt sh n i ha hi
      · cases h1
    · cases h
theorem mks_rest : ∀ {s : Shs} {x : s.T.D} {n k : Nat} {c : List Lf} {ob : List (Nat × Ob)} {rest : List Nat}, s.mk (List.range' n k) x = some (c, ob, rest) → s.cnt ≤ k ∧ rest = List.range' (n + s.cnt) (k - s.cnt) ∧
    (s.allBox = true → c.map capOf = s.refs n)
  | .nil, x, n, k, c, ob, rest, h => by
    simp only [Shs.mk] at h
    cases h
    exact ⟨Nat.zero_le _, rfl, fun _ => rfl⟩
  | .cons s l, x, n, k, c, ob, rest, h => by
    simp only [Shs.mk] at h
    split at h
    · rename_i c1 ob1 m1 h1
      split at h
      · rename_i c2 ob2 m2 h2
        cases h
        obtain ⟨h3, h4, h5, _⟩ := mk_rest h1
        subst h4
        obtain ⟨h6, h7, h8⟩ := mks_rest h2
        refine ⟨by simp only [Shs.cnt]; omega, by rw [h7]; simp only [Shs.cnt]; congr 1 <;> omega, fun ha => ?_⟩
        cases s with
        | box T sh =>
          simp only [Shs.allBox] at ha
          rcases h5 with h5 | h5
          · cases h5
          · rw [h5, List.map_append, h8 ha]
            rfl
        | _ => cases ha
      · cases h
    · cases h
end
theorem upto_range : ∀ k, upto k = List.range' 0 k
  | 0 => rfl
  | k + 1 => by rw [upto, upto_range k, List.range'_concat]; simp
theorem refP_ok : ∀ {s : Shs} {x : s.T.D} {n k : Nat} {c : List (Bool × List Lf)} {ob : List (Nat × Ob)} {rest : List Nat} {vs : List Value}, s.mkA (List.range' n k) x = some (c, ob, rest) →
    All2 (fun (y : Bool × List Lf) v => if y.1 = true then ∃ cs, v = .agg cs ∧ All2 (LfOK w Z γ) y.2 cs.toList else ∃ d, y.2 = [d] ∧ LfOK w Z γ d v) c vs → ∀ N, n + s.cnt ≤ N → All2 (fun y v => (∀ w' Z' ob', SlotOK w' Z' γ ob' y v) ∧ ∀ j, y.names j = true → j < N) (s.refP n) (s.io vs)
  | .nil, x, n, k, c, ob, rest, vs, h, hl, N, hN => by trivial
  | .cons s l, x, n, k, c, ob, rest, vs, h, hl, N, hN => by
    simp only [Shs.mkA] at h
    split at h
    · rename_i c1 ob1 m1 h1
      split at h
      · rename_i c2 ob2 m2 h2
        cases h
        cases vs with
        | nil => exact hl.elim
        | cons v vs =>
          obtain ⟨h3, h4, h5, h7⟩ := mk_rest h1
          subst h4
          simp only [Shs.cnt] at hN
          have ih := refP_ok (s := l) h2 hl.2 N (by omega)
          have h6 := hl.1
          simp only [Shs.refP, Shs.io]
          cases s with
          | val t => exact ih
          | mv e t => exact ih
          | own e t =>
            rcases h5 with h5 | h5
            · cases h5
            · obtain ⟨d, e1, e2⟩ := h6
              rw [h5] at e1
              cases e1
              exact ⟨⟨fun _ _ _ => e2, fun j hj => Nat.lt_of_lt_of_le (h7 j hj) (by omega)⟩, ih⟩
          | box T sh =>
            rcases h5 with h5 | h5
            · cases h5
            · obtain ⟨d, e1, e2⟩ := h6
              rw [h5] at e1
              cases e1
              exact ⟨⟨fun _ _ _ => e2, fun j hj => Nat.lt_of_lt_of_le (h7 j hj) (by omega)⟩, ih⟩
          | fn f sh =>
            rcases h5 with h5 | h5
            · cases h5
            · obtain ⟨d, e1, e2⟩ := h6
              rw [h5] at e1
              cases e1
              exact ⟨⟨fun _ _ _ => e2, fun j hj => Nat.lt_of_lt_of_le (h7 j hj) (by omega)⟩, ih⟩
      · cases h
    · cases h
/-! ### What is handed back -/
def resM (tm : Array Value) : ResultVar → Sem Value
  | .tmp t => pure (tm.getD t undef)
  | .cell a t => do loadVar t (← asAddr (tm.getD a undef))
theorem resSlots_ok (henv : envOK P E = true) {γ : Nat → Value} (hi : Inv w0 M Z0 w Z γ s.ob) {tm : Array Value} (hs : SlotsOK w Z γ s.ob s.sl tm) : ∀ {rv : List ResultVar} {l : List Slot}, resSlots E s rv = some l →
    ∃ vs, (rv.mapM (resM tm)).run P w = .ok vs w ∧ All2 (SlotOK w Z γ s.ob) l vs
  | [], l, h => by simp only [resSlots] at h; cases h; exact ⟨[], by simp, trivial⟩
  | .tmp t :: rv, l, h => by
    simp only [resSlots] at h
    split at h
    · rename_i r hr
      cases h
      obtain ⟨vs, h1, h2⟩ := resSlots_ok henv hi hs hr
      exact ⟨_ :: vs, by simp only [List.mapM_cons, Sem.run_bind, h1, resM, Sem.run_pure, Result.andThen_ok], hs.ok t, h2⟩
    · cases h
  | .cell x T :: rv, l, h => by
    simp only [resSlots] at h
    split at h
    · rename_i r b off hr hx
      split at h
      · rename_i U c hl
        split at h
        · rename_i ag n hc
          split at h
          · rename_i y hy
            cases h
            obtain ⟨vs, h1, h2⟩ := resSlots_ok henv hi hs hr
            have hx' := hs.ok x
            rw [show s.sl.getD x (.lf .u) = .lf (.p b off) from hx] at hx'
            obtain ⟨g, h4, h5⟩ := hx'
            obtain ⟨g2, cur, h6, h7, h8⟩ := hi.obs b _ hl
            rw [h4] at h6
            cases h6
            obtain ⟨hn, hsl⟩ := pick_ok (ob := s.ob) hy (All2.drop off h8)
            have hld := run_loadVar (P := P) (w := w) (cell_ok henv hc) ⟨g, off, none⟩ ((cur.toList.drop off).take n) (by rw [List.length_take]; omega) fun j u hu => cells_at h7 j u (by
              rw [List.getElem?_take] at hu
              split at hu
              · exact hu
              · cases hu)
            refine ⟨_ :: vs, ?_, hsl, h2⟩
            have hx2 : (resM tm (.cell x T)).run P w = .ok (ofCells ag ((cur.toList.drop off).take n)) w := by
              simp only [resM, Sem.run_bind, Sem.run_pure, Result.andThen_ok, h5, asAddr, hld]
            simp only [List.mapM_cons, Sem.run_bind, Sem.run_pure, Result.andThen_ok, hx2, h1]
          · cases h
        · cases h
      · cases h
    · cases h
theorem join_fst : ∀ (a b : Tys) (x : a.D) (y : b.D), a.fst b (a.join b x y) = x
  | .nil, _, _, _ => rfl
  | .cons _ a, b, x, y => by simp only [Tys.join, Tys.fst, join_fst a b]; rfl
theorem join_snd : ∀ (a b : Tys) (x : a.D) (y : b.D), a.snd b (a.join b x y) = y
  | .nil, _, _, _ => rfl
  | .cons _ a, b, x, y => by simp only [Tys.join, Tys.snd, join_snd a b]
theorem run_results {fn : Func} {tm : Array Value} {vs : List Value} (h : (fn.results.toList.mapM (resM tm)).run P w = .ok vs w) :
    (results fn tm).run P w = .ok (resVal vs) w := by
  have e : results fn tm = (do
      let vs ← fn.results.mapM (resM tm)
      pure (if h : vs.size = 1 then vs[0] else .tuple vs)) := by
    unfold results
    congr 2
  rw [e, Array.mapM_eq_mapM_toList]
  simp only [Sem.run_bind, Sem.run_map, h, Result.andThen_ok, Sem.run_pure]
  congr 1
  match vs with
  | [] => rfl
  | [v] => rfl
  | v :: v' :: vs => simp [resVal]
theorem optSh_rep {s : Shs} (hs : optSh s = true) {x : s.T.D} {vs : List Value} {bs : List Nat} (h : s.RepA w Z x (.bool false :: vs) bs) : s.T.nilB x = false ∧ ∃ v, vs = [v] := by
  unfold optSh at hs
  split at hs
  · rename_i q
    obtain ⟨v, vs', c, d, e1, e2, ⟨cs, h0, h1, _⟩, v2, vs2, c2, d2, e3, e4, _, e5, _⟩ := h
    obtain ⟨ev, evs⟩ := List.cons.inj e1
    have h0' : cs = [v] := h0
    have h1' : cs = [.bool x.1] := h1
    rw [h0', ← ev] at h1'
    have hx : false = (show Bool from x.1) := by
      have := List.cons.inj h1'
      exact Value.bool.inj this.1
    refine ⟨hx.symm, v2, ?_⟩
    rw [evs, e3, e5]
  · cases hs
/-- What the end of a call comes to. -/
theorem fin_ok (henv : envOK P E = true) {D : FnD} {fn : Func} (hrv : D.rv = fn.results.toList) {r : (D.res.T.app D.par.inout.T).D} (h : fin E D s = some r) {Z : Nat → Prop} {γ : Nat → Value} {bs : List Nat} (hi : Inv w0 (· ∈ bs) Z0 w Z γ s.ob)
    (hs : SlotsOK w Z γ s.ob s.sl a.tmps) {args : List Value} (hio : All2 (SlotOK w Z γ s.ob) (D.par.refP 0) (D.par.io args)) :
    ∃ v, (results fn a.tmps).run P w = .ok v w ∧ Back D w0 Z0 args bs r v w := by
  unfold fin at h
  split at h
  · cases h
  · rename_i sl hsl
    rw [hrv] at hsl
    obtain ⟨vs, hr, hvs⟩ := resSlots_ok henv hi hs hsl
    refine ⟨_, run_results hr, ?_⟩
    split at h
    · rename_i hnil
      split at h
      · rename_i y nb hy
        split at h
        · rename_i hnd
          cases h
          have hsl2 : sl = [.lf .np] ∧ D.opt = true ∧ D.res.T.nilB D.res.T.nilD = true := by
            unfold resNil at hnil
            split at hnil
            · rw [Bool.and_eq_true] at hnil
              exact ⟨rfl, hnil.1, hnil.2⟩
            · cases hnil
          obtain ⟨e1, ho, hn⟩ := hsl2
          subst e1
          match vs, hvs with
          | [v], hvs =>
            have hv : v = .pointer none := hvs.1
            subst hv
            let Zc : Nat → Prop := fun k => Z k ∨ ∃ q ∈ rowNames (D.par.inout.valsA s.ob (D.par.refP 0)), (look s.ob q).isSome = true ∧ blkV (γ q) = some k
            obtain ⟨h3, h4, _⟩ := takeA_ok (Z' := Zc) hi.obs (fun k hk => .inl hk) hy hio fun q hq hl k hk => .inr ⟨q, hq, hl, hk⟩
            have hnd' := nodupB_ok hnd
            obtain ⟨hnd1, _, hnd2⟩ := List.nodup_append.1 hnd'
            have hlive : ∀ n ∈ nb, ∃ o, look s.ob n = some o := kok_live h4
            refine ⟨Zc, [], blks (nb.map γ), hi.frm, ?_, ?_, by rw [join_snd]; exact h3, ?_, ?_⟩
            · rintro b (hz | ⟨q, hq, hql, hqb⟩)
              · exact ⟨hi.zlt b hz, hi.zold b hz⟩
              · obtain ⟨o, ho⟩ := Option.isSome_iff_exists.1 hql
                exact ⟨ob_lt (hi.obs q o ho) hqb, fun hlt => .inr ((hi.own q o b ho hqb).2 hlt)⟩
            · unfold ResOK
              rw [if_pos ho, join_fst]
              exact .inl ⟨hn, rfl, rfl⟩
            · rw [List.append_nil]
              refine blks_nodup hnd1 fun n m b hn hm h5 h6 => ?_
              obtain ⟨o, ho⟩ := hlive n hn
              obtain ⟨o', ho'⟩ := hlive m hm
              exact hi.disj n m o o' b ho ho' h5 h6
            · intro b hb
              rw [List.append_nil] at hb
              obtain ⟨n, hn, hbn⟩ := mem_blks.1 hb
              obtain ⟨o, ho⟩ := hlive n hn
              refine ⟨?_, (hi.own n o b ho hbn).2⟩
              rintro (hz | ⟨q, hq, hql, hqb⟩)
              · exact (hi.own n o b ho hbn).1 hz
              · obtain ⟨o', ho'⟩ := Option.isSome_iff_exists.1 hql
                have := hi.disj n q o o' b ho ho' hbn hqb
                subst this
                exact hnd2 n hn n (mem_dedup _ [] (.inr hq)) rfl
          | [], hvs => exact hvs.elim
          | _ :: _ :: _, hvs => exact hvs.2.elim
        · cases h
      · cases h
    · split at h
      · rename_i x na y nb hx hy
        split at h
        · rename_i hnd
          cases h
          rw [Bool.and_eq_true] at hnd
          obtain ⟨hnd, hosh⟩ := hnd
          have hvs' : ∃ vs', All2 (SlotOK w Z γ s.ob) (resArgs D sl) vs' ∧ (if D.opt = true then vs' = .bool false :: vs else vs' = vs) := by
            unfold resArgs
            split
            · exact ⟨.bool false :: vs, ⟨rfl, hvs⟩, rfl⟩
            · exact ⟨vs, hvs, rfl⟩
          obtain ⟨vs', hvs', hvv⟩ := hvs'
          let Zc : Nat → Prop := fun k => Z k ∨ ∃ q ∈ rowNames (D.res.valsA s.ob (resArgs D sl) ++ D.par.inout.valsA s.ob (D.par.refP 0)), (look s.ob q).isSome = true ∧ blkV (γ q) = some k
          obtain ⟨h1, h2, _⟩ := takeA_ok (Z' := Zc) hi.obs (fun k hk => .inl hk) hx hvs' fun q hq hl k hk => .inr ⟨q, by rw [rowNames_append]; exact List.mem_append_left _ hq, hl, hk⟩
          obtain ⟨h3, h4, _⟩ := takeA_ok (Z' := Zc) hi.obs (fun k hk => .inl hk) hy hio fun q hq hl k hk => .inr ⟨q, by rw [rowNames_append]; exact List.mem_append_right _ hq, hl, hk⟩
          have hnd' := nodupB_ok hnd
          obtain ⟨hnd1, _, hnd2⟩ := List.nodup_append.1 hnd'
          have hlive : ∀ n ∈ nb ++ na, ∃ o, look s.ob n = some o := fun n hn => (List.mem_append.1 hn).elim (kok_live h4 n) (kok_live h2 n)
          have hnd3 : (nb ++ na).Nodup := (List.perm_append_comm (l₁ := na) (l₂ := nb)).nodup_iff.1 hnd1
          refine ⟨Zc, blks (na.map γ), blks (nb.map γ), hi.frm, ?_, ?_, by rw [join_snd]; exact h3, ?_, ?_⟩
          · rintro b (hz | ⟨q, hq, hql, hqb⟩)
            · exact ⟨hi.zlt b hz, hi.zold b hz⟩
            · obtain ⟨o, ho⟩ := Option.isSome_iff_exists.1 hql
              exact ⟨ob_lt (hi.obs q o ho) hqb, fun hlt => .inr ((hi.own q o b ho hqb).2 hlt)⟩
          · unfold ResOK
            split
            · rename_i ho
              rw [if_pos ho] at hvv
              rw [join_fst]
              subst hvv
              rw [ho] at hosh
              obtain ⟨hn, v, rfl⟩ := optSh_rep (by simpa using hosh) h1
              exact .inr ⟨hn, _, h1⟩
            · rename_i ho
              rw [if_neg ho] at hvv
              subst hvv
              rw [join_fst]
              exact ⟨_, rfl, h1⟩
          · rw [← blks_append, ← List.map_append]
            refine blks_nodup hnd3 fun n m b hn hm h5 h6 => ?_
            obtain ⟨o, ho⟩ := hlive n hn
            obtain ⟨o', ho'⟩ := hlive m hm
            exact hi.disj n m o o' b ho ho' h5 h6
          · intro b hb
            rw [← blks_append, ← List.map_append] at hb
            obtain ⟨n, hn, hbn⟩ := mem_blks.1 hb
            obtain ⟨o, ho⟩ := hlive n hn
            refine ⟨?_, (hi.own n o b ho hbn).2⟩
            rintro (hz | ⟨q, hq, hql, hqb⟩)
            · exact (hi.own n o b ho hbn).1 hz
            · obtain ⟨o', ho'⟩ := Option.isSome_iff_exists.1 hql
              have := hi.disj n q o o' b ho ho' hbn hqb
              subst this
              exact hnd2 n (List.mem_append.2 (List.mem_append.1 hn).symm) n (mem_dedup _ [] (.inr hq)) rfl
        · cases h
      · cases h
end
end Go.GV
