/-
GV: a function's contract out of the run of its code. (This session's own text.)
-/
import Derived.Test.YtkkfgajlnpcpcaaGreatDoorGvFin
set_option linter.unusedVariables false
set_option linter.unusedSimpArgs false
namespace Go.GV
mutual
def Sh.okB : Sh → Bool
  | .fn _ l => l.allBox && l.okB
  | .box _ l => l.okB
  | .val _ => true
  | .own _ _ => true
  | .mv _ _ => true
def Shs.okB : Shs → Bool
  | .nil => true
  | .cons s l => s.okB && l.okB
end
mutual
theorem mk_some : ∀ {s : Sh} {x : s.T.D} {n k : Nat}, s.okB = true → s.cnt ≤ k → ∃ y, s.mk (List.range' n k) x = some y
  | .val t, x, n, k, _, _ => ⟨_, rfl⟩
  | .own e t, x, n, k + 1, _, _ => ⟨_, rfl⟩
  | .mv e t, x, n, k + 1, _, _ => ⟨_, rfl⟩
  | .box T sh, x, n, k + 1, h, hk => by
    obtain ⟨y, hy⟩ := mks_some (s := sh) (x := x) (n := n + 1) (k := k) h (by simp only [Sh.cnt] at hk; omega)
    simp only [Sh.mk, List.range'_succ, hy]
    exact ⟨_, rfl⟩
  | .fn f sh, x, n, k, h, hk => by
    simp only [Sh.okB, Bool.and_eq_true] at h
    obtain ⟨y, hy⟩ := mks_some (s := sh) (x := x) (n := n) (k := k) h.2 hk
    simp only [Sh.mk, h.1, if_true, hy]
    exact ⟨_, rfl⟩
  | .own _ _, _, _, 0, _, hk => by simp [Sh.cnt] at hk
  | .mv _ _, _, _, 0, _, hk => by simp [Sh.cnt] at hk
  | .box _ _, _, _, 0, _, hk => by simp [Sh.cnt] at hk
theorem mks_some : ∀ {s : Shs} {x : s.T.D} {n k : Nat}, s.okB = true → s.cnt ≤ k → ∃ y, s.mk (List.range' n k) x = some y
  | .nil, _, _, _, _, _ => ⟨_, rfl⟩
  | .cons s l, x, n, k, h, hk => by
    simp only [Shs.okB, Bool.and_eq_true] at h
    simp only [Shs.cnt] at hk
    obtain ⟨⟨c, ob, rest⟩, hy⟩ := mk_some (s := s) (x := x.1) (n := n) (k := k) h.1 (by omega)
    obtain ⟨_, h2, _⟩ := mk_rest hy
    subst h2
    obtain ⟨⟨c2, ob2, rest2⟩, hy2⟩ := mks_some (s := l) (x := x.2) (n := n + s.cnt) (k := k - s.cnt) h.2 (by omega)
    simp only [Shs.mk, hy, hy2]
    exact ⟨_, rfl⟩
end
theorem mkA_some : ∀ {s : Shs} {x : s.T.D} {n k : Nat}, s.okB = true → s.cnt ≤ k → ∃ y, s.mkA (List.range' n k) x = some y
  | .nil, _, _, _, _, _ => ⟨_, rfl⟩
  | .cons s l, x, n, k, h, hk => by
    simp only [Shs.okB, Bool.and_eq_true] at h
    simp only [Shs.cnt] at hk
    obtain ⟨⟨c, ob, rest⟩, hy⟩ := mk_some (s := s) (x := x.1) (n := n) (k := k) h.1 (by omega)
    obtain ⟨_, h2, _⟩ := mk_rest hy
    subst h2
    obtain ⟨⟨c2, ob2, rest2⟩, hy2⟩ := mkA_some (s := l) (x := x.2) (n := n + s.cnt) (k := k - s.cnt) h.2 (by omega)
    simp only [Shs.mkA, hy, hy2]
    exact ⟨_, rfl⟩
def Shs.len : Shs → Nat
  | .nil => 0
  | .cons _ l => l.len + 1
theorem repA_len {w : World} {Z : Nat → Prop} : ∀ {s : Shs} {x : s.T.D} {vs : List Value} {bs : List Nat}, s.RepA w Z x vs bs → vs.length = s.len
  | .nil, _, _, _, h => by rw [h.1]; rfl
  | .cons s l, _, _, _, ⟨v, vs', c, d, e, _, _, h⟩ => by rw [e, List.length_cons, repA_len h]; rfl
/-- What is checked of a card against the program. -/
structure CardOK (P : Program) (D : FnD) (c : Code) : Prop where
  fn : ∃ fn, P.funcs[D.fid]? = some fn ∧ fn.body = some c ∧ (fn.name == "runtime.NumGoroutine") = false ∧ fn.ntmps = D.n ∧ fn.results.toList = D.rv
  body : D.body = some c
  cnt : D.par.cnt ≤ 1000
  okB : D.par.okB = true
  len : D.par.len ≤ D.n
  wf : D.an.wf = true
  lab : nodupB (0 :: (places c D.an []).map (·.1)) = true
section
variable {P : Program} {E : Env} {GB : Nat → Prop} {G : World → Prop} {w0 : World} {M Z0 : Nat → Prop} {γ0 : Nat → Value} {m : Nat} {D : FnD} {c : Code}
theorem look_of_mem {α : Type} : ∀ {l : List (Nat × α)} {n : Nat} {x : α}, (l.map (·.1)).Nodup → (n, x) ∈ l → look l n = some x
  | [], _, _, _, h => by cases h
  | (k, y) :: l, n, x, hnd, h => by
    simp only [List.map_cons, List.nodup_cons] at hnd
    simp only [look]
    rcases List.mem_cons.1 h with h | h
    · cases h
      rw [if_pos (beqt.2 rfl)]
    · have hne : ¬ k = n := by
        rintro rfl
        exact hnd.1 (List.mem_map.2 ⟨_, h, rfl⟩)
      rw [if_neg (fun hb => hne (beqt.1 hb))]
      exact look_of_mem hnd.2 h
theorem CardOK.code (hc : CardOK P D c) : D.code 0 = [.c c D.an] ∧ ∀ i l, (i, l) ∈ places c D.an [] → D.code i = l := by
  have hnd := nodupB_ok hc.lab
  obtain ⟨h1, h2⟩ := List.nodup_cons.1 hnd
  refine ⟨by simp [FnD.code, hc.body], fun i l h => ?_⟩
  have hi : ¬ i = 0 := by
    rintro rfl
    exact h1 (List.mem_map.2 ⟨_, h, rfl⟩)
  simp only [FnD.code, hc.body]
  rw [if_neg (fun hb => hi (beqt.1 hb)), look_of_mem h2 h]
/-- What the run of the code comes to when calls, and places that have names, come to this. -/
def bodyD (E : Env) (ev : Ev E) (D : FnD) (go : Nat → St → Option (D.res.T.app D.par.inout.T).D) (i : Nat) (s : St) : Option (D.res.T.app D.par.inout.T).D :=
  run E ev D.par.cnt 100000 go (fun s => fin E D s) (D.code i) s
theorem bodyD_ok (henv : envOK P E = true) (hinl : E.inl = []) (hmix : P.follows .mixedOrders = true) (hst : Stable GB G) (hG : G w0) (hGB : ∀ b, GB b → b < w0.heap.size ∧ ¬ M b) {ev : Ev E} (hev : EvOK P GB G E ev) (hc : CardOK P D c) {b : Frame} {cs : List Frame} {Post : Act → World → Prop}
    {go : Nat → St → Option (D.res.T.app D.par.inout.T).D} {r : (D.res.T.app D.par.inout.T).D}
    (hfi : ∀ s a w, fin E D s = some r → Good w0 M Z0 γ0 D.par.cnt s a w → Post a w)
    (hgo : ∀ i s l, (i, l) ∈ places c D.an [] → go i s = some r → ∀ a w, Good w0 M Z0 γ0 D.par.cnt s a w → ∀ k, ItOK l k → Ends P b cs Post k a w)
    {i : Nat} {l : List It} (hl : (i = 0 ∧ l = [.c c D.an]) ∨ (i, l) ∈ places c D.an []) {s : St} (h : bodyD E ev D go i s = some r) {a : Act} {w : World} (hg : Good w0 M Z0 γ0 D.par.cnt s a w) {k : List Item} (hk : ItOK l k) : Ends P b cs Post k a w := by
  obtain ⟨h0, h1⟩ := hc.code
  have hpos : Pos (places c D.an []) [.c c D.an] := ⟨fun _ hp => hp, hc.wf, trivial⟩
  have hpl := places_pos (T := places c D.an []) c D.an [] hc.wf (fun _ hp => hp) trivial
  have hcode : D.code i = l ∧ Pos (places c D.an []) l := by
    rcases hl with ⟨rfl, rfl⟩ | hl
    · exact ⟨h0, hpos⟩
    · exact ⟨h1 i l hl, hpl i l hl⟩
  unfold bodyD at h
  rw [hcode.1] at h
  exact run_ok henv hinl hmix hst hG hGB hc.cnt hev hfi (fun i s l hm hgo' _ a w hg k hk => hgo i s l hm hgo' a w hg k hk) hpl (fun s k s' a w h hg => at_ok hc.cnt h hg) 100000 l k s a w h hk hcode.2 hg
/-- Calls, by what code comes to from places on. st: what the functions without cards of code come to. -/
def evOf (E : Env) (st : Ev E) (R : (f : Nat) → Nat → St → Option (E.resT f).D) : Ev E := fun g x => match h : look E.fn g with
  | none => none
  | some D => match D.body with
    | none => st g x
    | some _ => R g 0 (start D (cast (by rw [Env.argT, h]) x))
/-- The semantics, so many rounds deep. -/
def rn (E : Env) (st : Ev E) : Nat → (f : Nat) → Nat → St → Option (E.resT f).D
  | 0, _, _, _ => none
  | n + 1, f, i, s => match h : look E.fn f with
    | none => none
    | some D => cast (by rw [Env.resT, h]) (bodyD E (evOf E st (rn E st n)) D (fun i s => cast (by rw [Env.resT, h]) (rn E st n f i s)) i s)
theorem cast_some {A B : Type} (h : A = B) {x : Option A} {r : A} (e : cast (by rw [h]) x = some (cast h r)) : x = some r := by subst h; exact e
theorem cast_some' {A B : Type} (h : A = B) {x : Option A} {r : B} (e : cast (by rw [h]) x = some r) : x = some (cast h.symm r) := by subst h; exact e
/-- Where a call begins. -/
theorem start_ok (hc : CardOK P D c) {x : D.par.T.D} {w : World} {Z : Nat → Prop} {args : List Value} {bs : List Nat} (hz : ∀ b, Z b → b < w.heap.size) (hnd : bs.Nodup) (hbs : ∀ b ∈ bs, ¬ Z b ∧ b < w.heap.size) (h : D.par.RepA w Z x args bs) (hsz : args.length ≤ D.n) :
    ∃ γ0, Good w (· ∈ bs) Z γ0 D.par.cnt (start D x) { tmps := args.toArray ++ Array.replicate (D.n - args.toArray.size) undef, defers := [] } w ∧
      All2 (fun y v => (∀ w' Z' ob', SlotOK w' Z' γ0 ob' y v) ∧ ∀ j, y.names j = true → j < D.par.cnt) (D.par.refP 0) (D.par.io args) := by
  obtain ⟨⟨cl, ob, rest⟩, hy⟩ := mkA_some (s := D.par) (x := x) (n := 0) (k := D.par.cnt) hc.okB (Nat.le_refl _)
  obtain ⟨used, us, e1, h1, h2, h3, h4, h5⟩ := mkA_ok h hy
  have hndu : used.Nodup := by
    have := upto_nodup D.par.cnt
    rw [upto_range, e1] at this
    exact (List.nodup_append.1 this).1
  have hmap := upds_in (fun _ => undef) (vs := us) hndu h1
  obtain ⟨γ0, hγ0⟩ : ∃ γ0, γ0 = upds (fun _ => undef) used us := ⟨_, rfl⟩
  rw [← hγ0] at hmap
  obtain ⟨h6, h7⟩ := h5 γ0 hmap
  have hst : start D x = ⟨cl.map slotOf ++ List.replicate (D.n - cl.length) (.lf .un), ob, 1000⟩ := by
    unfold start
    rw [upto_range, hy]
  have hlk : ∀ n o, look ob n = some o → (n, o) ∈ ob ∧ n ∈ used := fun n o h => ⟨look_mem h, by rw [← h3]; exact List.mem_map.2 ⟨_, look_mem h, rfl⟩⟩
  refine ⟨γ0, ?_, refP_ok hy h6 D.par.cnt (by omega)⟩
  rw [hst]
  have hlen := All2.length h6
  refine ⟨⟨Z, γ0, ⟨Frm.refl _ _, hz, fun b hb _ => .inl hb, fun n o h => h7 n o (hlk n o h).1, ?_, ?_⟩, ⟨by simp [hlen], fun i => ?_⟩, fun _ _ => rfl⟩, Nat.le_refl _, rfl⟩
  · intro n m o o' b h h' hb hb'
    exact blks_disj (l := used) (by rw [hmap, h2]; exact hnd) n m b (hlk n o h).2 (hlk m o' h').2 hb hb'
  · intro n o b h hb
    have : b ∈ bs := by
      rw [← h2, ← hmap]
      exact mem_blks.2 ⟨n, (hlk n o h).2, hb⟩
    exact ⟨(hbs b this).1, fun _ => this⟩
  · simp only [List.getD_eq_getElem?_getD, Array.getD_eq_getD_getElem?]
    by_cases hi : i < cl.length
    · have hi2 : i < args.length := by omega
      rw [List.getElem?_append_left (by simpa using hi), List.getElem?_map, List.getElem?_eq_getElem hi, Array.getElem?_append_left (by simpa using hi2)]
      simp only [Option.map_some, Option.getD_some, List.getElem?_toArray, List.getElem?_eq_getElem hi2]
      exact slotOf_ok (All2.get i cl[i] args[i] h6 (List.getElem?_eq_getElem hi) (List.getElem?_eq_getElem hi2))
    · rw [List.getElem?_append_right (by simpa using hi), Array.getElem?_append_right (by simp; omega)]
      rw [List.getElem?_replicate, Array.getElem?_replicate]
      simp only [List.length_map, List.size_toArray, hlen]
      split <;> simp [SlotOK, LfOK]
variable (P GB G E) in
def Claim (st : Ev E) (n : Nat) : Prop := ∀ f D c (hD : look E.fn f = some D), D.body = some c → ∀ (w0 : World) (M Z0 : Nat → Prop) (γ0 : Nat → Value) (b : Frame) (cs : List Frame) (Post : Act → World → Prop) (r : (D.res.T.app D.par.inout.T).D), G w0 → (∀ b, GB b → b < w0.heap.size ∧ ¬ M b) →
  (∀ s a w, fin E D s = some r → Good w0 M Z0 γ0 D.par.cnt s a w → Post a w) → ∀ i l, ((i = 0 ∧ l = [.c c D.an]) ∨ (i, l) ∈ places c D.an []) → ∀ s, rn E st n f i s = some (cast (by rw [Env.resT, hD]) r) →
  ∀ a w, Good w0 M Z0 γ0 D.par.cnt s a w → ∀ k, ItOK l k → Ends P b cs Post k a w
/-- A function's contract, out of what is claimed of its code. -/
theorem fn_of_claim (henv : envOK P E = true) {st : Ev E} {n : Nat} (hcl : Claim P E GB G st n) {f : Nat} (hD : look E.fn f = some D) (hc : CardOK P D c) {x : D.par.T.D} {r : (D.res.T.app D.par.inout.T).D}
    (h : rn E st n f 0 (start D x) = some (cast (by rw [Env.resT, hD]) r)) : FnB P GB G D x r := by
  obtain ⟨fn, hf1, hf2, hf3, hf4, hf5⟩ := hc.fn
  refine ⟨⟨fn, c, hf1, hf2, hf3⟩, fun w Z args bs hG hGB hz hnd hbs hrep => ?_⟩
  obtain ⟨γ0, hgood, hio⟩ := start_ok hc hz hnd hbs hrep (by rw [repA_len hrep]; exact hc.len)
  intro cs
  let b : Frame := { (default : Frame) with fn := D.fid, kind := .normal }
  have henter : Frame.enter P D.fid args.toArray .normal = b.at { tmps := args.toArray ++ Array.replicate (D.n - args.toArray.size) undef, defers := [] } [.code c] := by
    simp [Frame.enter, Frame.at, hf1, hf2, hf4, b]
  obtain ⟨a', w', todo, hsteps, v, hd, hr, hback⟩ := hcl f D c hD hc.body w (· ∈ bs) Z γ0 b cs (fun a' w' => ∃ v, a'.defers = [] ∧ (results fn a'.tmps).run P w' = .ok v w' ∧ Back D w Z args bs r v w') r hG hGB
    (fun s a' w' hfin hg => by
      obtain ⟨⟨Zf, γf, hi, hs, hγ⟩, _, hd⟩ := hg
      obtain ⟨v, h1, h2⟩ := fin_ok henv hf5.symm hfin hi hs (args := args) (All2.imp (fun y _ v h => SlotOK.keep (Stay.refl w' Zf) (h.1 w' Zf s.ob) fun j hj => ⟨hγ j (h.2 j hj), fun E t xs hx => ⟨E, xs, hx, rfl⟩⟩) hio)
      exact ⟨v, hd, h1, h2⟩) 0 _ (.inl ⟨rfl, rfl⟩) _ h _ w hgood _ (.code .nil)
  rw [← henter] at hsteps
  exact ⟨.returned v, w', _, ⟨v, rfl, hback⟩, hsteps, rfl, rfl, hd, rfl, fn, hf1, hr⟩
theorem claim_all (henv : envOK P E = true) (hsel : SelOK P E) (hinl : E.inl = []) (hmix : P.follows .mixedOrders = true) (hst : Stable GB G) (hcards : ∀ f D c, look E.fn f = some D → D.body = some c → CardOK P D c) {st : Ev E}
    (hstub : ∀ f D (hD : look E.fn f = some D), D.body = none → ∀ x r, st f x = some r → FnOK P GB G D (cast (by rw [Env.argT, hD]) x) (cast (by rw [Env.resT, hD]) r)) : ∀ n, Claim P E GB G st n
  | 0 => fun f D c hD hb w0 M Z0 γ0 b cs Post r hG hGB hfi i l hl s h => by cases h
  | n + 1 => fun f D c hD hb w0 M Z0 γ0 b cs Post r hG hGB hfi i l hl s h a w hg k hk => by
    have ih := claim_all henv hsel hinl hmix hst hcards hstub n
    have hc := hcards f D c hD hb
    simp only [rn] at h
    split at h
    · simp at h
    · rename_i D' hD'
      have e : D' = D := Option.some.inj (hD'.symm.trans hD)
      subst e
      have hT : (D'.res.T.app D'.par.inout.T).D = (E.resT f).D := by rw [Env.resT, hD]
      have h' := cast_some hT h
      refine bodyD_ok henv hinl hmix hst hG hGB ?_ hc hfi ?_ hl h' hg hk
      · refine ⟨hsel, fun g x r' hr' D2 hD2 => ?_⟩
        unfold evOf at hr'
        split at hr'
        · cases hr'
        · rename_i D3 hD3
          have e3 : D3 = D2 := Option.some.inj (hD3.symm.trans hD2)
          subst e3
          split at hr'
          · rename_i hnb
            exact hstub g D3 hD2 hnb x r' hr'
          · rename_i c3 hc3
            refine .inl (fn_of_claim henv ih hD2 (hcards g D3 c3 hD2 hc3) ?_)
            rw [hr']
            simp
      · intro j s' l' hm hgo a' w' hg' k' hk'
        exact ih f D' c hD hb w0 M Z0 γ0 b cs Post r hG hGB hfi j l' (.inr hm) s' (cast_some' hT.symm hgo) a' w' hg' k' hk'
end
end Go.GV
