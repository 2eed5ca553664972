/-
GV: regions whose order is open: the whole region. (This session's own text.)
-/
import Derived.Test.YtkkfgajlnpcpcaaGreatDoorGvDraw2
set_option linter.unusedVariables false
set_option linter.unusedSimpArgs false
namespace Go.GV
section
variable {P : Program} {E : Env} {R : Type} {ev : Ev E} {inl : FuncId → List Slot → St → (Slot → List (Nat × Ob) → Option R) → Option R} {ops : Array Oper} {s t s1 s2 : St} {o : Oper}
theorem tr_w {e : Ent} {s' : St} (hw : e.w = true) : Tr ev inl ops o e s s' ↔ ∃ x ob, s' = (s.withOb ob).setd o.dst x ∧ (∀ n, n ∉ e.nm → look ob n = look s.ob n) ∧
      ∀ t, Sees ops o s t → t.ob = s.ob → (∀ n ∈ e.mn, t.sl.any (Slot.names n) = s.sl.any (Slot.names n)) → To ev inl ops o t ((t.withOb ob).setd o.dst x) := by
  unfold Tr
  rw [if_pos hw]
theorem tr_r {e : Ent} {s' : St} (hw : e.w = false) : Tr ev inl ops o e s s' ↔ ∃ x, s' = s.setd o.dst x ∧ (∀ n ∈ s.oldNms o.dst, n ∈ e.mn) ∧ (∀ n ∈ x.nms, n ∈ e.mn) ∧
      ∀ t, Sees ops o s t → (∀ n ∈ e.nm, look t.ob n = look s.ob n) → To ev inl ops o t (t.setd o.dst x) := by
  unfold Tr
  rw [if_neg (by rw [hw]; decide)]
theorem old_setd {d e : Option Nat} {x : Slot} (h : ∀ i, d = some i → e ≠ some i) : (s.setd d x).oldNms e = s.oldNms e := by
  cases e with
  | none => rfl
  | some j =>
    simp only [St.oldNms]
    rw [get_setd fun i hi e => h i hi (by rw [e])]
theorem relOK_spec {a b : Ent} (h : relOK a b = true) : (a.w = false ∧ b.w = false) ∨ (¬ (a.w = true ∧ b.w = true) ∧ (∀ n ∈ a.nm, n ∉ b.nm) ∧ ∀ n ∈ a.mn, n ∉ b.mn) := by
  unfold relOK at h
  simp only [Bool.or_eq_true, Bool.and_eq_true, Bool.not_eq_true', List.all_eq_true, List.any_eq_false] at h
  rcases h with h | ⟨⟨h1, h2⟩, h3⟩
  · exact .inl h
  · refine .inr ⟨fun ⟨e1, e2⟩ => (by rw [e1, e2] at h1; cases h1), fun n hn hb => ?_, fun n hn hb => ?_⟩
    · exact absurd (beq_self n) (h2 n hn n hb)
    · exact absurd (beq_self n) (h3 n hn n hb)
theorem Sees.withOb' {ob : List (Nat × Ob)} : Sees ops o (s.withOb ob) s := ⟨rfl, fun _ _ => rfl⟩
theorem swap {ok oi : Oper} {ek ei : Ent} (hap : Oper.apart ops ok oi = true) (hrel : relOK ek ei = true) (hk : Tr ev inl ops ok ek s s1) (hi : Tr ev inl ops oi ei s1 s2) : ∃ s1', Tr ev inl ops oi ei s s1' ∧ Tr ev inl ops ok ek s1' s2 := by
  obtain ⟨a1, a2, a3⟩ := Oper.apart_spec hap
  have a2' : ∀ d, oi.dst = some d → ok.dst ≠ some d := fun d h1 h2 => a2 d h2 h1
  cases hwk : ek.w with
  | false =>
    obtain ⟨x, rfl, k1, k2, k3⟩ := (tr_r hwk).1 hk
    cases hwi : ei.w with
    | false =>
      obtain ⟨y, rfl, i1, i2, i3⟩ := (tr_r hwi).1 hi
      have hob := (setd_ob s ok.dst x).1
      have hob2 := (setd_ob s oi.dst y).1
      refine ⟨s.setd oi.dst y, (tr_r hwi).2 ⟨y, rfl, by rw [← old_setd (x := x) a2]; exact i1, i2, fun t ht hl => i3 t ((Sees.setd' a1).trans ht) (by rw [hob]; exact hl)⟩, (tr_r hwk).2 ⟨x, ?_, by rw [old_setd a2']; exact k1, k2, fun t ht hl => ?_⟩⟩
      · exact setd_comm a2
      · exact k3 t ((Sees.setd a3).trans ht) (by rw [hob2] at hl; exact hl)
    | true =>
      obtain ⟨y, ob, rfl, i1, i2⟩ := (tr_w hwi).1 hi
      have hob := (setd_ob s ok.dst x).1
      rcases relOK_spec hrel with ⟨_, h⟩ | ⟨_, hdis, hmn⟩
      · rw [hwi] at h; cases h
      refine ⟨(s.withOb ob).setd oi.dst y, (tr_w hwi).2 ⟨y, ob, rfl, fun n hn => by rw [i1 n hn, hob], fun t ht hto hf => i2 t ((Sees.setd' a1).trans ht) (hto.trans hob.symm) fun n hn => ?_⟩, (tr_r hwk).2 ⟨x, ?_, ?_, k2, fun t ht hl => ?_⟩⟩
      · rw [hf n hn, any_setd (fun h => hmn n (k2 n h) hn) (fun h => hmn n (k1 n h) hn)]
      · rw [setd_withOb, setd_withOb, setd_withOb, setd_comm a2]
      · rw [old_setd a2']; exact k1
      · refine k3 t ((Sees.withOb.trans (Sees.setd a3)).trans ht) fun n hn => ?_
        rw [hl n hn, (setd_ob _ _ _).1]
        exact (i1 n (hdis n hn)).trans (by rw [hob])
  | true =>
    obtain ⟨x, ob, rfl, k1, k2⟩ := (tr_w hwk).1 hk
    have hwi : ei.w = false := by
      rcases relOK_spec hrel with ⟨h, _⟩ | ⟨h, _⟩
      · rw [hwk] at h; cases h
      · cases hh : ei.w with
        | false => rfl
        | true => exact absurd ⟨hwk, hh⟩ h
    rcases relOK_spec hrel with ⟨h, _⟩ | ⟨_, hdis, hmn⟩
    · rw [hwk] at h; cases h
    obtain ⟨y, rfl, i1, i2, i3⟩ := (tr_r hwi).1 hi
    have hob := (setd_ob (s.withOb ob) ok.dst x).1
    have hold : ((s.withOb ob).setd ok.dst x).oldNms oi.dst = s.oldNms oi.dst := (old_setd a2).trans rfl
    rw [hold] at i1
    refine ⟨s.setd oi.dst y, (tr_r hwi).2 ⟨y, rfl, i1, i2, fun t ht hl => i3 t (((Sees.setd' a1).trans Sees.withOb').trans ht) fun n hn => ?_⟩, (tr_w hwk).2 ⟨x, ob, ?_, fun n hn => ?_, fun t ht hto hf => ?_⟩⟩
    · rw [hl n hn, hob]
      exact (k1 n (fun h => hdis n h hn)).symm
    · rw [setd_withOb, setd_withOb, setd_comm a2, setd_withOb]
    · rw [k1 n hn, (setd_ob _ _ _).1]
    · refine k2 t ((Sees.setd a3).trans ht) (hto.trans (setd_ob _ _ _).1) fun n hn => ?_
      rw [hf n hn, any_setd (fun h => hmn n hn (i2 n h)) (fun h => hmn n hn (i1 n h))]

/-! ### The way through the region, in the order of the text -/
abbrev Pt := Nat × Oper × Ent
def Path (ev : Ev E) (inl : FuncId → List Slot → St → (Slot → List (Nat × Ob) → Option R) → Option R) (ops : Array Oper) : List Pt → St → St → Prop
  | [], s, s' => s' = s
  | p :: l, s, s' => ∃ s1, Tr ev inl ops p.2.1 p.2.2 s s1 ∧ Path ev inl ops l s1 s'
theorem path_move {x : Pt} : ∀ {l l' : List Pt} {s s' : St}, (∀ y ∈ l, relOK y.2.2 x.2.2 = true ∧ Oper.apart ops y.2.1 x.2.1 = true) → Path ev inl ops (l ++ x :: l') s s' → ∃ s1, Tr ev inl ops x.2.1 x.2.2 s s1 ∧ Path ev inl ops (l ++ l') s1 s'
  | [], l', s, s', _, h => h
  | y :: l, l', s, s', hy, ⟨s1, h1, h2⟩ => by
    obtain ⟨s2, h3, h4⟩ := path_move (fun z hz => hy z (List.mem_cons_of_mem _ hz)) h2
    obtain ⟨h5, h6⟩ := hy y List.mem_cons_self
    obtain ⟨s1', h7, h8⟩ := swap h6 h5 h1 h3
    exact ⟨s1', h7, s2, h8, h4⟩
/-- Before whom each stands. -/
def Later (m : Nat → Nat) (ops : Array Oper) (p q : Pt) : Prop := (m q.1).testBit p.1 = true ∨ (relOK p.2.2 q.2.2 = true ∧ Oper.apart ops p.2.1 q.2.1 = true)
def masks : List Oper → List Nat → List Nat
  | [], acc => acc
  | o :: l, acc => masks l (acc ++ [ancM acc o.after.toList])
theorem masks_pre : ∀ (l : List Oper) (acc : List Nat) (i : Nat), i < acc.length → (masks l acc)[i]? = acc[i]?
  | [], _, _, _ => rfl
  | o :: l, acc, i, h => by
    simp only [masks]
    rw [masks_pre l _ i (by simp; omega), List.getElem?_append_left h]
theorem logOK_spec {m : Nat} {e : Ent} : ∀ {l : List Pt}, logOK ops o m e l = true → ∀ p ∈ l, m.testBit p.1 = true ∨ (relOK p.2.2 e = true ∧ Oper.apart ops p.2.1 o = true)
  | [], _, p, hp => by cases hp
  | (j, o', e') :: l, h, p, hp => by
    simp only [logOK, Bool.and_eq_true, Bool.or_eq_true] at h
    rcases List.mem_cons.1 hp with rfl | hp
    · exact h.1
    · exact logOK_spec h.2 p hp
theorem drawK_path (hinl : E.inl = []) {K : St → Option R} {r : R} : ∀ {l : List Oper} {acc : List Nat} {s : St} {lg : List Pt}, drawK E ev ops l acc s lg K = some r →
    ∃ p s', Path ev inl ops p s s' ∧ K s' = some r ∧ p.map (fun x => (x.1, x.2.1)) = (List.range' acc.length l.length).zip l ∧
      p.Pairwise (Later (fun i => (masks l acc).getD i 0) ops) ∧ (∀ x ∈ lg, ∀ y ∈ p, Later (fun i => (masks l acc).getD i 0) ops x y)
  | [], acc, s, lg, h => ⟨[], s, rfl, h, rfl, List.Pairwise.nil, fun _ _ _ hy => by cases hy⟩
  | o :: l, acc, s, lg, h => by
    simp only [drawK] at h
    split at h
    · obtain ⟨s1, e, h1, h2⟩ := opE_tr (inl := inl) hinl h
      split at h2
      · rename_i hlog
        obtain ⟨p, s', h3, h4, h5, h6, h7⟩ := drawK_path hinl h2
        have hm : (masks (o :: l) acc).getD acc.length 0 = ancM acc o.after.toList := by
          simp only [masks, List.getD_eq_getElem?_getD]
          rw [masks_pre _ _ _ (by simp), List.getElem?_append_right (Nat.le_refl _)]
          simp
        refine ⟨(acc.length, o, e) :: p, s', ⟨s1, h1, h3⟩, h4, ?_, ?_, ?_⟩
        · simp only [List.map_cons, h5, List.length_append, List.length_cons, List.length_nil, List.range'_succ, List.zip_cons_cons]
        · exact List.pairwise_cons.2 ⟨fun y hy => h7 _ List.mem_cons_self y hy, h6⟩
        · intro x hx y hy
          rcases List.mem_cons.1 hy with rfl | hy
          · have := logOK_spec hlog x hx
            unfold Later
            dsimp only
            rw [hm]
            exact this
          · exact h7 x (List.mem_cons_of_mem _ hx) y hy
      · cases h2
    · cases h
theorem edgesOK_spec {i : Nat} : ∀ {l : List Edge}, edgesOK i l = true → ∀ e ∈ l, Region.binds .any e = true → e.on < i
  | [], _, e, he, _ => by cases he
  | e' :: l, h, e, he, hb => by
    simp only [edgesOK, Bool.and_eq_true, Bool.or_eq_true, Bool.not_eq_true'] at h
    rcases List.mem_cons.1 he with rfl | he
    · rcases h.1 with h1 | h1
      · rw [hb] at h1; cases h1
      · exact Nat.le_of_ble_eq_true h1
    · exact edgesOK_spec h.2 e he hb
theorem drawK_edges (hinl : E.inl = []) {K : St → Option R} {r : R} : ∀ {l : List Oper} {acc : List Nat} {s : St} {lg : List Pt}, drawK E ev ops l acc s lg K = some r → ∀ i o, l[i]? = some o → edgesOK (acc.length + i) o.after.toList = true
  | [], _, _, _, _, i, o, hi => by simp at hi
  | o' :: l, acc, s, lg, h, i, o, hi => by
    simp only [drawK] at h
    split at h
    · rename_i he
      obtain ⟨s1, e, _, h2⟩ := opE_tr (inl := fun _ _ _ _ => none) hinl h
      split at h2
      · cases i with
        | zero => simp at hi; subst hi; exact he
        | succ i =>
          have := drawK_edges hinl h2 i o (by simpa using hi)
          simpa [Nat.add_assoc, Nat.add_comm 1] using this
      · cases h2
    · cases h
theorem ancM_spec {acc : List Nat} {k : Nat} : ∀ {l : List Edge}, (ancM acc l).testBit k = true → ∃ e ∈ l, Region.binds .any e = true ∧ (k = e.on ∨ (acc.getD e.on 0).testBit k = true)
  | [], h => by simp [ancM] at h
  | e :: l, h => by
    simp only [ancM, Nat.testBit_or, Bool.or_eq_true] at h
    rcases h with h | h
    · split at h
      · rename_i hb
        simp only [Nat.testBit_or, Bool.or_eq_true] at h
        refine ⟨e, List.mem_cons_self, hb, ?_⟩
        rcases h with h | h
        · rw [Nat.testBit_two_pow] at h
          exact .inl (by simpa using h : e.on = k).symm
        · exact .inr h
      · simp at h
    · obtain ⟨e', h1, h2⟩ := ancM_spec h
      exact ⟨e', List.mem_cons_of_mem _ h1, h2⟩
theorem masks_spec : ∀ (l : List Oper) (acc : List Nat) (i : Nat) (o : Oper), l[i]? = some o → (∀ e ∈ o.after.toList, Region.binds .any e = true → e.on < acc.length + i) → ∀ k, ((masks l acc).getD (acc.length + i) 0).testBit k = true →
    ∃ e ∈ o.after.toList, Region.binds .any e = true ∧ (k = e.on ∨ ((masks l acc).getD e.on 0).testBit k = true)
  | [], _, i, o, h, _, _, _ => by simp at h
  | o' :: l, acc, 0, o, h, he, k, hk => by
    simp at h
    subst h
    simp only [masks, List.getD_eq_getElem?_getD, Nat.add_zero] at hk ⊢
    rw [masks_pre _ _ _ (by simp), List.getElem?_append_right (Nat.le_refl _)] at hk
    simp at hk
    obtain ⟨e, h1, h2, h3⟩ := ancM_spec hk
    refine ⟨e, by simpa using h1, h2, ?_⟩
    rcases h3 with h3 | h3
    · exact .inl h3
    · have hlt := he e h1 h2
      rw [masks_pre _ _ _ (by simp; omega), List.getElem?_append_left (by omega)]
      exact .inr (by simpa [List.getD_eq_getElem?_getD] using h3)
  | o' :: l, acc, i + 1, o, h, he, k, hk => by
    simp only [masks] at hk ⊢
    have e1 : acc.length + (i + 1) = (acc ++ [ancM acc o'.after.toList]).length + i := by simp; omega
    rw [e1] at hk he
    exact masks_spec l _ i o (by simpa using h) he k hk
/-! ### Any order -/
theorem op1_ok {GB : Nat → Prop} {G : World → Prop} {w0 : World} {M Z0 : Nat → Prop} {γ0 : Nat → Value} {m : Nat} (henv : envOK P E = true) (hinl : E.inl = []) (hst : Stable GB G) (hG : G w0) (hGB : ∀ b, GB b → b < w0.heap.size ∧ ¬ M b) (hm : m ≤ 1000) (hev : EvOK P GB G E ev)
    {K : St → Option R} {r : R} {i : Nat} {a : Act} {w : World} (hoi : ops[i]? = some o) (h : opsK E ev inl ops [o] s K = some r) (hg : Good w0 M Z0 γ0 m s a w) {Q : Exit → Act → World → Prop} :
    wpOp P ops Q i (fun a w => ∃ s', K s' = some r ∧ Good w0 M Z0 γ0 m s' a w) a w := by
  have doit : ∀ s', stepK E ev inl s' o K = some r → Good w0 M Z0 γ0 m s' a w → o.wp P a w (fun a w => ∃ s', K s' = some r ∧ Good w0 M Z0 γ0 m s' a w) Q :=
    fun s' h1 h2 => stepK_ok henv hinl hst hG hGB hm hev h1 h2
  have skip : ∀ s' v, K (s'.setd o.dst (.lf .un)) = some r → Good w0 M Z0 γ0 m s' a w → v = undef → ∃ s', K s' = some r ∧ Good w0 M Z0 γ0 m s' (a.put o.dst v) w := by
    rintro s' v h1 ⟨⟨Z, γ, hi, hs, hγ⟩, hb, hd⟩ rfl
    exact ⟨_, h1, ⟨Z, γ, by rw [(setd_ob _ _ _).1]; exact hi, by rw [(setd_ob _ _ _).1]; exact setd_ok (b := s'.b) hs rfl, hγ⟩, by rw [(setd_ob _ _ _).2]; exact hb, by rw [Go.GV.put_defers]; exact hd⟩
  unfold wpOp
  simp only [hoi]
  simp only [opsK] at h
  cases hgd : o.guard with
  | none =>
    rw [hgd] at h
    have hw : Region.wanted o (yielded ops a.tmps) = true := by simp [Region.wanted, hgd]
    rw [if_pos hw]
    exact .inl (doit s h hg)
  | some jw =>
    obtain ⟨j, want⟩ := jw
    rw [hgd] at h
    dsimp only at h
    split at h
    · rename_i gt hgt
      have hy := yielded_ok (tm := a.tmps) hgt
      obtain ⟨⟨Z, γ, hi, hs, hγ⟩, hb, hd⟩ := id hg
      have hslot := hs.ok gt
      split at h
      · rename_i hsl
        rw [show s.sl.getD gt (.lf .u) = .lf .un from hsl] at hslot
        have hv : a.tmps.getD gt undef = undef := hslot
        have hw : Region.wanted o (yielded ops a.tmps) = false := by
          simp only [Region.wanted, hgd, hy, hv]
          rfl
        rw [hw]
        exact skip s _ h hg rfl
      · rename_i c hsl
        rw [show s.sl.getD gt (.lf .u) = .lf (.v .bool c) from hsl] at hslot
        have hv : ∀ c : Bool, SlotOK w Z γ s.ob (.lf (.v .bool c)) (a.tmps.getD gt undef) → a.tmps.getD gt undef = .bool c := by
          intro c h
          simpa only [SlotOK, LfOK, Ty.Rep, List.cons.injEq, and_true] using h
        have hv := hv c hslot
        have hw : Region.wanted o (yielded ops a.tmps) = (some (show Bool from c) == some want) := by
          simp only [Region.wanted, hgd, hy, hv]
        have hgs : Good w0 M Z0 γ0 m (s.set gt (.lf (.v .bool c))) a w := ⟨⟨Z, γ, hi, setd_same hs hslot, hγ⟩, hb, hd⟩
        cases c with
        | true =>
          cases want with
          | true => rw [if_pos (by rw [hw]; rfl)]; exact .inl (doit _ h hgs)
          | false => rw [if_neg (by rw [hw]; decide)]; exact skip _ _ h hgs rfl
        | false =>
          cases want with
          | true => rw [if_neg (by rw [hw]; decide)]; exact skip _ _ h hgs rfl
          | false => rw [if_pos (by rw [hw]; rfl)]; exact .inl (doit _ h hgs)
      · cases h
    · cases h
theorem any_ok {GB : Nat → Prop} {G : World → Prop} {w0 : World} {M Z0 : Nat → Prop} {γ0 : Nat → Value} {m : Nat} (henv : envOK P E = true) (hinl : E.inl = []) (hst : Stable GB G) (hG : G w0) (hGB : ∀ b, GB b → b < w0.heap.size ∧ ¬ M b) (hm : m ≤ 1000) (hev : EvOK P GB G E ev)
    (r : R) {mk : Nat → Nat} (hmk : ∀ i o, ops[i]? = some o → ∀ k, (mk i).testBit k = true → ∃ e ∈ o.after.toList, Region.binds .any e = true ∧ (k = e.on ∨ (mk e.on).testBit k = true))
    (hed : ∀ i o, ops[i]? = some o → ∀ e ∈ o.after.toList, Region.binds .any e = true → e.on < i) {sn : St} {Q : Exit → Act → World → Prop} (hQ : ∀ a w, Good w0 M Z0 γ0 m sn a w → Q .normal a w) :
    ∀ (n : Nat) (p : List Pt), p.length = n → ∀ (listed : Array Bool) (s : St) (a : Act) (w : World), listed.size = ops.size → Path ev inl ops p s sn → p.Pairwise (Later mk ops) → p.Pairwise (fun x y => x.1 < y.1) → (∀ x ∈ p, ops[x.1]? = some x.2.1) →
      (∀ i, i < ops.size → (listed.getD i false = false ↔ i ∈ p.map (·.1))) → (∀ i, i < ops.size → listed.getD i false = true → ∀ k, (mk i).testBit k = true → listed.getD k false = true) →
      Good w0 M Z0 γ0 m s a w → wpAny P .any ops Q n listed a w := by
  have key : ∀ (listed : Array Bool), listed.size = ops.size → ∀ i, i < ops.size → listed.getD i true = listed.getD i false := by
    intro listed hsz i hi
    simp [Array.getD_eq_getD_getElem?, hsz, hi]
  intro n
  induction n with
  | zero =>
    intro p hp listed s a w hsz hpath _ _ _ hlist _ hg
    have : p = [] := List.eq_nil_of_length_eq_zero hp
    subst this
    have e : sn = s := hpath
    subst e
    refine ⟨?_, hQ a w hg⟩
    refine List.eq_nil_iff_forall_not_mem.2 fun j hj => ?_
    obtain ⟨h0, o, ho, _⟩ := mem_ready.1 hj
    have hlt := (Array.getElem?_eq_some_iff.1 ho).1
    rw [key listed hsz j hlt] at h0
    have := (hlist j hlt).1 h0
    simp at this
  | succ n ih =>
    intro p hp listed s a w hsz hpath hpw hsort hops hlist hdc hg
    refine ⟨fun hr => ?_, fun i hi => ?_⟩
    · exfalso
      cases p with
      | nil => simp at hp
      | cons x p =>
        have hx := hops x List.mem_cons_self
        have hlt := (Array.getElem?_eq_some_iff.1 hx).1
        have : x.1 ∈ Region.ready .any ops listed := by
          refine mem_ready.2 ⟨?_, x.2.1, hx, fun e he hb => ?_⟩
          · rw [key listed hsz _ hlt]; exact (hlist x.1 hlt).2 (by simp)
          · have h1 := hed x.1 x.2.1 hx e (by simpa using he) hb
            cases hl : listed.getD e.on false with
            | true => rfl
            | false =>
              have h2 := (hlist e.on (by omega)).1 hl
              simp only [List.map_cons, List.mem_cons, List.mem_map] at h2
              rcases h2 with h2 | ⟨y, hy, h2⟩
              · omega
              · have := (List.pairwise_cons.1 hsort).1 y hy
                omega
        rw [hr] at this
        cases this
    · obtain ⟨h0, o, ho, hall⟩ := mem_ready.1 hi
      have hlt := (Array.getElem?_eq_some_iff.1 ho).1
      rw [key listed hsz i hlt] at h0
      have hmem := (hlist i hlt).1 h0
      obtain ⟨x, hx, rfl⟩ := List.mem_map.1 hmem
      obtain ⟨l, l', rfl⟩ := List.append_of_mem hx
      have hox : x.2.1 = o := Option.some.inj ((hops x hx).symm.trans ho)
      have hanc : ∀ k, (mk x.1).testBit k = true → listed.getD k false = true := by
        intro k hk
        obtain ⟨e, he, hb, h1⟩ := hmk x.1 o ho k hk
        have h2 := hall e (by simpa using he) hb
        rcases h1 with rfl | h1
        · exact h2
        · have h3 := hed x.1 o ho e he hb
          exact hdc e.on (by omega) h2 k h1
      obtain ⟨hp1, hp2, hp3⟩ := List.pairwise_append.1 hpw
      obtain ⟨hs1, hs2, hs3⟩ := List.pairwise_append.1 hsort
      have hfree : ∀ y ∈ l, relOK y.2.2 x.2.2 = true ∧ Oper.apart ops y.2.1 x.2.1 = true := by
        intro y hy
        rcases hp3 y hy x List.mem_cons_self with h1 | h1
        · exfalso
          have h2 := hanc y.1 h1
          have h3 := hops y (List.mem_append_left _ hy)
          have h4 := (hlist y.1 (Array.getElem?_eq_some_iff.1 h3).1).2 (List.mem_map.2 ⟨y, List.mem_append_left _ hy, rfl⟩)
          rw [h2] at h4
          cases h4
        · exact h1
      obtain ⟨s1, htr, hrest⟩ := path_move hfree hpath
      have hto := htr.to
      rw [hox] at hto
      classical
      have h1 : opsK E ev inl ops [o] s (fun s' => if s' = s1 then some r else none) = some r := by rw [hto, if_pos rfl]
      refine wpOp_mono (fun a' w' hh => ?_) (op1_ok (Q := Q) henv hinl hst hG hGB hm hev ho h1 hg)
      obtain ⟨s', h2, h3⟩ := hh
      have : s' = s1 := by
        by_cases e : s' = s1
        · exact e
        · rw [if_neg e] at h2; cases h2
      subst this
      have hnd : ∀ y ∈ l ++ l', y.1 ≠ x.1 := by
        intro y hy e
        rcases List.mem_append.1 hy with hy | hy
        · have := hs3 y hy x List.mem_cons_self; omega
        · have := (List.pairwise_cons.1 hs2).1 y hy; omega
      have hset : ∀ j, (listed.setIfInBounds x.1 true).getD j false = if x.1 = j then true else listed.getD j false := by
        intro j
        simp only [Array.getD_eq_getD_getElem?, Array.getElem?_setIfInBounds]
        by_cases hj : x.1 = j
        · subst hj
          simp [hsz, hlt]
        · simp [hj]
      refine ih (l ++ l') (by simp at hp ⊢; omega) _ s' a' w' (by simpa using hsz) hrest ?_ ?_ (fun y hy => hops y ?_) (fun j hj => ?_) (fun j hj hl k hk => ?_) h3
      · exact List.pairwise_append.2 ⟨hp1, (List.pairwise_cons.1 hp2).2, fun y hy z hz => hp3 y hy z (List.mem_cons_of_mem _ hz)⟩
      · exact List.pairwise_append.2 ⟨hs1, (List.pairwise_cons.1 hs2).2, fun y hy z hz => hs3 y hy z (List.mem_cons_of_mem _ hz)⟩
      · rcases List.mem_append.1 hy with hy | hy
        · exact List.mem_append_left _ hy
        · exact List.mem_append_right _ (List.mem_cons_of_mem _ hy)
      · rw [hset]
        by_cases hjx : x.1 = j
        · subst hjx
          simp only [if_true]
          constructor
          · intro h; cases h
          · intro h
            obtain ⟨y, hy, e⟩ := List.mem_map.1 h
            exact absurd e (hnd y hy)
        · rw [if_neg hjx, hlist j hj]
          simp only [List.map_append, List.map_cons, List.mem_append, List.mem_cons]
          constructor
          · rintro (h | h | h)
            · exact .inl h
            · exact absurd h.symm hjx
            · exact .inr h
          · rintro (h | h)
            · exact .inl h
            · exact .inr (.inr h)
      · rw [hset] at hl ⊢
        split
        · rfl
        · by_cases hjx : x.1 = j
          · subst hjx; exact hanc k hk
          · rw [if_neg hjx] at hl; exact hdc j hj hl k hk
/-- A region whose order is open. -/
theorem draw_ok {GB : Nat → Prop} {G : World → Prop} {w0 : World} {M Z0 : Nat → Prop} {γ0 : Nat → Value} {m : Nat} (henv : envOK P E = true) (hmix : P.follows .mixedOrders = true) (hinl : E.inl = []) (hst : Stable GB G) (hG : G w0) (hGB : ∀ b, GB b → b < w0.heap.size ∧ ¬ M b) (hm : m ≤ 1000) (hev : EvOK P GB G E ev)
    {K : St → Option R} {r : R} {id : Nat} {a : Act} {w : World} (h : drawK E ev ops ops.toList [] s [] K = some r) (hg : Good w0 M Z0 γ0 m s a w) :
    (Code.region id ops true).wp P (fun e a w => e = .normal ∧ ∃ s', K s' = some r ∧ Good w0 M Z0 γ0 m s' a w) a w := by
  obtain ⟨p, sn, h1, h2, h3, h4, _⟩ := drawK_path (inl := fun _ _ _ _ => none) hinl h
  have hedges := drawK_edges hinl h
  have hlen : p.length = ops.size := by
    have := congrArg List.length h3
    simpa using this
  have hget : ∀ x ∈ p, ops[x.1]? = some x.2.1 := by
    intro x hx
    have h5 : (x.1, x.2.1) ∈ p.map (fun x => (x.1, x.2.1)) := List.mem_map.2 ⟨x, hx, rfl⟩
    rw [h3] at h5
    obtain ⟨j, hj⟩ := List.getElem?_of_mem h5
    rw [List.getElem?_zip_eq_some] at hj
    obtain ⟨hj1, hj2⟩ := hj
    have hjl := (List.getElem?_eq_some_iff.1 hj2).1
    rw [List.getElem?_range' hjl] at hj1
    simp at hj1
    rw [← hj1]
    simpa using hj2
  have hidx : p.map (·.1) = List.range' 0 ops.size := by
    have := congrArg (List.map Prod.fst) h3
    rw [List.map_map] at this
    rw [show (p.map (·.1)) = p.map (Prod.fst ∘ fun x => (x.1, x.2.1)) from rfl, this, List.map_fst_zip (by simp)]
    simp
  have hed : ∀ i o, ops[i]? = some o → ∀ e ∈ o.after.toList, Region.binds .any e = true → e.on < i := by
    intro i o ho e he hb
    have := hedges i o (by simpa using ho)
    simp only [List.length_nil, Nat.zero_add] at this
    exact edgesOK_spec this e he hb
  refine wp_region_any hmix ?_
  have hg' : Good w0 M Z0 γ0 m s a { w with drawn := w.drawn + 1 } := by
    obtain ⟨⟨Z, γ, hi, hs, hγ⟩, hb, hd⟩ := hg
    have hst : Stay w { w with drawn := w.drawn + 1 } Z Z := Stay.of_block fun k hk => ⟨hk, rfl⟩
    exact ⟨⟨Z, γ, ⟨⟨hi.frm.os, hi.frm.tape, hi.frm.output, hi.frm.size, hi.frm.block⟩, hi.zlt, hi.zold, fun n o ho => ObOK.keep (hi.obs n o ho) hst (fun _ _ => rfl) rfl (fun _ _ => rfl), hi.disj, hi.own⟩,
      ⟨hs.len, fun i => SlotOK.keep hst (hs.ok i) fun n _ => ⟨rfl, fun E t xs hx => ⟨E, xs, hx, rfl⟩⟩⟩, hγ⟩, hb, hd⟩
  rw [← hlen]
  refine any_ok (mk := fun i => (masks ops.toList []).getD i 0) henv hinl hst hG hGB hm hev r (fun i o ho k hk => ?_) hed (sn := sn) (fun a w hg => ⟨rfl, sn, h2, hg⟩) p.length p rfl _ s a _ (by simp [hlen]) h1 h4 ?_ hget (fun i hi => ?_) (fun i hi hl => ?_) hg'
  · have := masks_spec ops.toList [] i o (by simpa using ho) (fun e he hb => by simpa using hed i o ho e he hb) k (by simpa using hk)
    simpa using this
  · have : (p.map (·.1)).Pairwise (· < ·) := by rw [hidx]; exact List.pairwise_lt_range' 
    exact List.pairwise_map.1 this
  · rw [hidx]
    simp [hi, hlen]
  · simp [hlen, hi] at hl
end
end Go.GV
