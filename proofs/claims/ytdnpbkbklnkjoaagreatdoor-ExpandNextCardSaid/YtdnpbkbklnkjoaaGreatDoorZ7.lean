/-
Part of the words that the laws of this seat are proved with: no statement of its own, no conditions.
-/
import Derived.Test.YtdnpbkbklnkjoaaGreatDoorZ6
set_option linter.unusedVariables false
set_option linter.unusedSimpArgs false
namespace Go.GV
mutual
def Sh.okB : Sh → Bool
 | .fn _ l => l.allBox && l.okB
 | .box _ l => l.okB
 | .val _ => true
 | .own _ _ => true
 | .mv _ _ => true
 | .rcd l => l.flat && l.okB
def Shs.okB : Shs → Bool
 | .nil => true
 | .cons s l => s.okB && l.okB
end
mutual
theorem mk_some : ∀ {s : Sh} {x : s.T.D} {n k : Nat}, s.okB = true → s.cnt ≤ k → ∃ y, s.mk (List.range' n k) x = some y
 | .val t, x, n, k, _, _ => ⟨_, rfl⟩
 | .own e t, x, n, k + 1, _, _ => ⟨_, rfl⟩
 | .mv e t, x, n, k + 1, _, _ => ⟨_, rfl⟩
 | .box T sh, x, n, k + 1, h, hk => by
  obtain ⟨y, hy⟩ := mks_some (s := sh) (x := x) (n := n + 1) (k := k) h (by simp only [Sh.cnt] at hk; omega)
  simp only [Sh.mk, List.range'_succ, hy]
  exact ⟨_, rfl⟩
 | .fn f sh, x, n, k, h, hk => by
  simp only [Sh.okB, Bool.and_eq_true] at h
  obtain ⟨y, hy⟩ := mks_some (s := sh) (x := x) (n := n) (k := k) h.2 hk
  simp only [Sh.mk, h.1, if_true, hy]
  exact ⟨_, rfl⟩
 | .rcd sh, x, n, k, h, hk => by
  simp only [Sh.okB, Bool.and_eq_true] at h
  obtain ⟨y, hy⟩ := mks_some (s := sh) (x := x) (n := n) (k := k) h.2 hk
  simp only [Sh.mk, h.1, if_true, hy]
  exact ⟨_, rfl⟩
 | .own _ _, _, _, 0, _, hk => by simp [Sh.cnt] at hk
 | .mv _ _, _, _, 0, _, hk => by simp [Sh.cnt] at hk
 | .box _ _, _, _, 0, _, hk => by simp [Sh.cnt] at hk
theorem mks_some : ∀ {s : Shs} {x : s.T.D} {n k : Nat}, s.okB = true → s.cnt ≤ k → ∃ y, s.mk (List.range' n k) x = some y
 | .nil, _, _, _, _, _ => ⟨_, rfl⟩
 | .cons s l, x, n, k, h, hk => by
  simp only [Shs.okB, Bool.and_eq_true] at h
  simp only [Shs.cnt] at hk
  obtain ⟨⟨c, ob, rest⟩, hy⟩ := mk_some (s := s) (x := x.1) (n := n) (k := k) h.1 (by omega)
  obtain ⟨_, h2, _⟩ := mk_rest hy
  subst h2
  obtain ⟨⟨c2, ob2, rest2⟩, hy2⟩ := mks_some (s := l) (x := x.2) (n := n + s.cnt) (k := k - s.cnt) h.2 (by omega)
  simp only [Shs.mk, hy, hy2]
  exact ⟨_, rfl⟩
end
theorem mkA_rest : ∀ {s : Shs} {x : s.T.D} {n : Nat} {c : List (Bool × List Lf)} {ob : List (Nat × Ob)} {rest : List Nat}, s.mkA (List.range' n s.cnt) x = some (c, ob, rest) → rest = []
 | s, x, n, c, ob, rest, h => by
  have key : ∀ {s : Shs} {x : s.T.D} {n k : Nat} {c : List (Bool × List Lf)} {ob : List (Nat × Ob)} {rest : List Nat}, s.mkA (List.range' n k) x = some (c, ob, rest) → rest = List.range' (n + s.cnt) (k - s.cnt) := by
   intro s
   induction s using Shs.rec (motive_1 := fun _ => True) with
   | nil => intro x n k c ob rest h; simp only [Shs.mkA] at h; cases h; rfl
   | cons s l _ ih =>
    intro x n k c ob rest h
    simp only [Shs.mkA] at h
    split at h
    ·rename_i c1 ob1 m1 h1
     split at h
     ·rename_i c2 ob2 m2 h2
      cases h
      obtain ⟨_, h4, _⟩ := mk_rest h1
      subst h4
      rw [ih h2]
      simp only [Shs.cnt]
      congr 1 <;> omega
     ·cases h
    ·cases h
   | _ => trivial
  rw [key h, Nat.sub_self]
  rfl
theorem mkA_some : ∀ {s : Shs} {x : s.T.D} {n k : Nat}, s.okB = true → s.cnt ≤ k → ∃ y, s.mkA (List.range' n k) x = some y
 | .nil, _, _, _, _, _ => ⟨_, rfl⟩
 | .cons s l, x, n, k, h, hk => by
  simp only [Shs.okB, Bool.and_eq_true] at h
  simp only [Shs.cnt] at hk
  obtain ⟨⟨c, ob, rest⟩, hy⟩ := mk_some (s := s) (x := x.1) (n := n) (k := k) h.1 (by omega)
  obtain ⟨_, h2, _⟩ := mk_rest hy
  subst h2
  obtain ⟨⟨c2, ob2, rest2⟩, hy2⟩ := mkA_some (s := l) (x := x.2) (n := n + s.cnt) (k := k - s.cnt) h.2 (by omega)
  simp only [Shs.mkA, hy, hy2]
  exact ⟨_, rfl⟩
def Shs.len : Shs → Nat
 | .nil => 0
 | .cons _ l => l.len + 1
theorem repA_len {w : World} {Z : Nat → Prop} : ∀ {s : Shs} {x : s.T.D} {vs : List Value} {bs : List Nat}, s.RepA w Z x vs bs → vs.length = s.len
 | .nil, _, _, _, h => by rw [h.1]; rfl
 | .cons s l, _, _, _, ⟨v, vs', c, d, e, _, _, h⟩ => by rw [e, List.length_cons, repA_len h]; rfl
structure CardOK (P : Program) (D : FnD) (c : Code) : Prop where
 fn : ∃ fn, P.funcs[D.fid]? = some fn ∧ fn.body = some c ∧ (fn.name == "runtime.NumGoroutine") = false ∧ fn.ntmps = D.n ∧ fn.results.toList = D.rv
 body : D.body = some c
 cnt : D.par.cnt ≤ 1000
 okB : D.par.okB = true
 len : D.par.len ≤ D.n
 wf : D.an.wf = true
 lab : nodupB (0 :: (places c D.an []).map (·.1)) = true
section
variable {P : Program} {E : Env} {GB : Nat → Prop} {G : World → Prop} {w0 : World} {M Z0 : Nat → Prop} {γ0 : Nat → Value} {m : Nat} {D : FnD} {c : Code}
theorem look_of_mem {α : Type} : ∀ {l : List (Nat × α)} {n : Nat} {x : α}, (l.map (·.1)).Nodup → (n, x) ∈ l → look l n = some x
 | [], _, _, _, h => by cases h
 | (k, y) :: l, n, x, hnd, h => by
  simp only [List.map_cons, List.nodup_cons] at hnd
  simp only [look]
  rcases List.mem_cons.1 h with h | h
  ·cases h
   rw [if_pos (beqt.2 rfl)]
  ·have hne : ¬ k = n := by
    rintro rfl
    exact hnd.1 (List.mem_map.2 ⟨_, h, rfl⟩)
   rw [if_neg (fun hb => hne (beqt.1 hb))]
   exact look_of_mem hnd.2 h
theorem CardOK.code (hc : CardOK P D c) : D.code 0 = [.c c D.an] ∧ ∀ i l, (i, l) ∈ places c D.an [] → D.code i = l := by
 have hnd := nodupB_ok hc.lab
 obtain ⟨h1, h2⟩ := List.nodup_cons.1 hnd
 refine ⟨by simp [FnD.code, hc.body], fun i l h => ?_⟩
 have hi : ¬ i = 0 := by
  rintro rfl
  exact h1 (List.mem_map.2 ⟨_, h, rfl⟩)
 simp only [FnD.code, hc.body]
 rw [if_neg (fun hb => hi (beqt.1 hb)), look_of_mem h2 h]
noncomputable def bodyD (E : Env) (ev : Ev E) (D : FnD) (go : Nat → St → Option (D.res.T.app D.par.inout.T).D) (i : Nat) (s : St) : Option (D.res.T.app D.par.inout.T).D :=
 run E ev D.par.cnt 100000 go (fun s => fin E D s) (D.code i) s
theorem bodyD_ok (henv : envOK P E = true) (hinl : E.inl = []) (hmix : P.follows .mixedOrders = true) (hst : Stable GB G) (hG : G w0) (hGB : ∀ b, GB b → b < w0.heap.size ∧ ¬ M b) {ev : Ev E} (hev : EvOK P GB G E ev) (hc : CardOK P D c) {b : Frame} {cs : List Frame} {Post : Act → World → Prop}
  {go : Nat → St → Option (D.res.T.app D.par.inout.T).D} {r : (D.res.T.app D.par.inout.T).D}
  (hfi : ∀ s a w, fin E D s = some r → Good w0 M Z0 γ0 D.par.cnt s a w → Post a w)
  (hgo : ∀ i s l, (i, l) ∈ places c D.an [] → go i s = some r → ∀ a w, Good w0 M Z0 γ0 D.par.cnt s a w → ∀ k, ItOK l k → Ends P b cs Post k a w)
  {i : Nat} {l : List It} (hl : (i = 0 ∧ l = [.c c D.an]) ∨ (i, l) ∈ places c D.an []) {s : St} (h : bodyD E ev D go i s = some r) {a : Act} {w : World} (hg : Good w0 M Z0 γ0 D.par.cnt s a w) {k : List Item} (hk : ItOK l k) : Ends P b cs Post k a w := by
 obtain ⟨h0, h1⟩ := hc.code
 have hpos : Pos (places c D.an []) [.c c D.an] := ⟨fun _ hp => hp, hc.wf, trivial⟩
 have hpl := places_pos (T := places c D.an []) c D.an [] hc.wf (fun _ hp => hp) trivial
 have hcode : D.code i = l ∧ Pos (places c D.an []) l := by
  rcases hl with ⟨rfl, rfl⟩ | hl
  ·exact ⟨h0, hpos⟩
  ·exact ⟨h1 i l hl, hpl i l hl⟩
 unfold bodyD at h
 rw [hcode.1] at h
 exact run_ok henv hinl hmix hst hG hGB hc.cnt hev hfi (fun i s l hm hgo' _ a w hg k hk => hgo i s l hm hgo' a w hg k hk) hpl (fun s k s' a w h hg => at_ok hc.cnt h hg) 100000 l k s a w h hk hcode.2 hg
def evOf (E : Env) (st : Ev E) (R : (f : Nat) → Nat → St → Option (E.resT f).D) : Ev E := fun g x => match h : look E.fn g with
 | none => none
 | some D => match D.body with
  | none => st g x
  | some _ => R g 0 (start D (cast (by rw [Env.argT, h]) x))
noncomputable def rn (E : Env) (st : Ev E) : Nat → (f : Nat) → Nat → St → Option (E.resT f).D
 | 0, _, _, _ => none
 | n + 1, f, i, s => match h : look E.fn f with
  | none => none
  | some D => cast (by rw [Env.resT, h]) (bodyD E (evOf E st (rn E st n)) D (fun i s => cast (by rw [Env.resT, h]) (rn E st n f i s)) i s)
theorem cast_some {A B : Type} (h : A = B) {x : Option A} {r : A} (e : cast (by rw [h]) x = some (cast h r)) : x = some r := by subst h; exact e
theorem cast_some' {A B : Type} (h : A = B) {x : Option A} {r : B} (e : cast (by rw [h]) x = some r) : x = some (cast h.symm r) := by subst h; exact e
theorem start_ok (hc : CardOK P D c) {x : D.par.T.D} {w : World} {Z : Nat → Prop} {args : List Value} {bs : List Nat} (hz : ∀ b, Z b → b < w.heap.size) (hnd : bs.Nodup) (hbs : ∀ b ∈ bs, ¬ Z b ∧ b < w.heap.size) (h : D.par.RepA w Z x args bs) (hsz : args.length ≤ D.n) :
  ∃ γ0, Good w (· ∈ bs) Z γ0 D.par.cnt (start D x) { tmps := args.toArray ++ Array.replicate (D.n - args.toArray.size) undef, defers := [] } w ∧
   All2 (fun y v => (∀ w' Z' ob', SlotOK w' Z' γ0 ob' y v) ∧ ∀ j, y.names j = true → j < D.par.cnt) (D.par.refP 0) (D.par.io args) ∧ ∃ bx, D.par.inout.Bx w (D.par.io args) bx ∧ (pickB D.par.inout.bxs (D.par.keep (upto D.par.cnt))).map γ0 = bx.map ptrV := by
 obtain ⟨⟨cl, ob, rest⟩, hy⟩ := mkA_some (s := D.par) (x := x) (n := 0) (k := D.par.cnt) hc.okB (Nat.le_refl _)
 obtain ⟨used, us, e1, h1, h2, h3, h4, h5⟩ := mkA_ok h hy
 have hndu : used.Nodup := by
  have := upto_nodup D.par.cnt
  rw [upto_range, e1] at this
  exact (List.nodup_append.1 this).1
 have hmap := upds_in (fun _ => undef) (vs := us) hndu h1
 obtain ⟨γ0, hγ0⟩ : ∃ γ0, γ0 = upds (fun _ => undef) used us := ⟨_, rfl⟩
 rw [← hγ0] at hmap
 obtain ⟨h6, h7⟩ := h5 γ0 hmap
 have hst : start D x = ⟨cl.map slotOf ++ List.replicate (D.n - cl.length) (.lf .un), ob, 1000⟩ := by
  unfold start
  rw [upto_range, hy]
 have hlk : ∀ n o, look ob n = some o → (n, o) ∈ ob ∧ n ∈ used := fun n o h => ⟨look_mem h, by rw [← h3]; exact List.mem_map.2 ⟨_, look_mem h, rfl⟩⟩
 refine ⟨γ0, ?_, refP_ok hy h6 D.par.cnt (by omega), by
  have e2 : upto D.par.cnt = used := by
   have hl2 := congrArg List.length e1
   rw [List.length_range', List.length_append] at hl2
   have hr : rest = [] := mkA_rest hy
   rw [upto_range, e1, hr, List.append_nil]
  obtain ⟨hl3, bx, g1, g2⟩ := mkA_bx (w := w) (Z := Z) (γ := γ0) hy h6 h7
  rw [h3, ← e2] at g2
  exact io_bx g1 g2 (by rw [e2, ← h3, List.length_map, hl3])⟩
 rw [hst]
 have hlen := All2.length h6
 refine ⟨⟨Z, γ0, ⟨Frm.refl _ _, hz, fun b hb _ => .inl hb, fun n o h => h7 n o (hlk n o h).1, ?_, ?_⟩, ⟨by simp [hlen], fun i => ?_⟩, fun _ _ => rfl⟩, Nat.le_refl _, rfl⟩
 ·intro n m o o' b h h' hb hb'
  exact blks_disj (l := used) (by rw [hmap, h2]; exact hnd) n m b (hlk n o h).2 (hlk m o' h').2 hb hb'
 ·intro n o b h hb
  have : b ∈ bs := by
   rw [← h2, ← hmap]
   exact mem_blks.2 ⟨n, (hlk n o h).2, hb⟩
  exact ⟨(hbs b this).1, fun _ => this⟩
 ·simp only [List.getD_eq_getElem?_getD, Array.getD_eq_getD_getElem?]
  by_cases hi : i < cl.length
  ·have hi2 : i < args.length := by omega
   rw [List.getElem?_append_left (by simpa using hi), List.getElem?_map, List.getElem?_eq_getElem hi, Array.getElem?_append_left (by simpa using hi2)]
   simp only [Option.map_some, Option.getD_some, List.getElem?_toArray, List.getElem?_eq_getElem hi2]
   exact slotOf_ok (All2.get i cl[i] args[i] h6 (List.getElem?_eq_getElem hi) (List.getElem?_eq_getElem hi2))
  ·rw [List.getElem?_append_right (by simpa using hi), Array.getElem?_append_right (by simp; omega)]
   rw [List.getElem?_replicate, Array.getElem?_replicate]
   simp only [List.length_map, List.size_toArray, hlen]
   split <;> simp [SlotOK, LfOK]
variable (P GB G E) in
def Claim (st : Ev E) (n : Nat) : Prop := ∀ f D c (hD : look E.fn f = some D), D.body = some c → ∀ (w0 : World) (M Z0 : Nat → Prop) (γ0 : Nat → Value) (b : Frame) (cs : List Frame) (Post : Act → World → Prop) (r : (D.res.T.app D.par.inout.T).D), G w0 → (∀ b, GB b → b < w0.heap.size ∧ ¬ M b) →
 (∀ s a w, fin E D s = some r → Good w0 M Z0 γ0 D.par.cnt s a w → Post a w) → ∀ i l, ((i = 0 ∧ l = [.c c D.an]) ∨ (i, l) ∈ places c D.an []) → ∀ s, rn E st n f i s = some (cast (by rw [Env.resT, hD]) r) →
 ∀ a w, Good w0 M Z0 γ0 D.par.cnt s a w → ∀ k, ItOK l k → Ends P b cs Post k a w
theorem fn_of_claim (henv : envOK P E = true) {st : Ev E} {n : Nat} (hcl : Claim P E GB G st n) {f : Nat} (hD : look E.fn f = some D) (hc : CardOK P D c) {x : D.par.T.D} {r : (D.res.T.app D.par.inout.T).D}
  (h : rn E st n f 0 (start D x) = some (cast (by rw [Env.resT, hD]) r)) : FnB P GB G D x r := by
 obtain ⟨fn, hf1, hf2, hf3, hf4, hf5⟩ := hc.fn
 refine ⟨⟨fn, c, hf1, hf2, hf3⟩, fun w Z args bs hG hGB hz hnd hbs hrep => ?_⟩
 obtain ⟨γ0, hgood, hio, hid⟩ := start_ok hc hz hnd hbs hrep (by rw [repA_len hrep]; exact hc.len)
 intro cs
 let b : Frame := { (default : Frame) with fn := D.fid, kind := .normal }
 have henter : Frame.enter P D.fid args.toArray .normal = b.at { tmps := args.toArray ++ Array.replicate (D.n - args.toArray.size) undef, defers := [] } [.code c] := by
  simp [Frame.enter, Frame.at, hf1, hf2, hf4, b]
 obtain ⟨a', w', todo, hsteps, v, hd, hr, hback⟩ := hcl f D c hD hc.body w (· ∈ bs) Z γ0 b cs (fun a' w' => ∃ v, a'.defers = [] ∧ (results fn a'.tmps).run P w' = .ok v w' ∧ Back D w Z args bs r v w') r hG hGB
  (fun s a' w' hfin hg => by
   obtain ⟨⟨Zf, γf, hi, hs, hγ⟩, _, hd⟩ := hg
   obtain ⟨v, h1, h2⟩ := fin_ok henv hf5.symm hfin hi hs (args := args) (All2.imp (fun y _ v h => SlotOK.keep (Stay.refl w' Zf) (h.1 w' Zf s.ob) fun j hj => ⟨hγ j (h.2 j hj), fun E t xs hx => ⟨E, xs, hx, rfl⟩⟩) hio) (by
    obtain ⟨bx, g1, g2⟩ := hid
    refine ⟨bx, g1, ?_⟩
    rw [← g2]
    refine List.map_congr_left fun j hj => hγ j ?_
    have hj := keep_mem _ _ j (pickB_mem hj)
    rw [upto_range, List.mem_range'] at hj
    omega)
   exact ⟨v, hd, h1, h2⟩) 0 _ (.inl ⟨rfl, rfl⟩) _ h _ w hgood _ (.code .nil)
 rw [← henter] at hsteps
 exact ⟨.returned v, w', _, ⟨v, rfl, hback⟩, hsteps, rfl, rfl, hd, rfl, fn, hf1, hr⟩
theorem claim_all (henv : envOK P E = true) (hsel : SelOK P E) (hinl : E.inl = []) (hmix : P.follows .mixedOrders = true) (hst : Stable GB G) (hcards : ∀ f D c, look E.fn f = some D → D.body = some c → CardOK P D c) {st : Ev E}
  (hstub : ∀ f D (hD : look E.fn f = some D), D.body = none → ∀ x r, st f x = some r → FnOK P GB G D (cast (by rw [Env.argT, hD]) x) (cast (by rw [Env.resT, hD]) r)) : ∀ n, Claim P E GB G st n
 | 0 => fun f D c hD hb w0 M Z0 γ0 b cs Post r hG hGB hfi i l hl s h => by cases h
 | n + 1 => fun f D c hD hb w0 M Z0 γ0 b cs Post r hG hGB hfi i l hl s h a w hg k hk => by
  have ih := claim_all henv hsel hinl hmix hst hcards hstub n
  have hc := hcards f D c hD hb
  simp only [rn] at h
  split at h
  ·simp at h
  ·rename_i D' hD'
   have e : D' = D := Option.some.inj (hD'.symm.trans hD)
   subst e
   have hT : (D'.res.T.app D'.par.inout.T).D = (E.resT f).D := by rw [Env.resT, hD]
   have h' := cast_some hT h
   refine bodyD_ok henv hinl hmix hst hG hGB ?_ hc hfi ?_ hl h' hg hk
   ·refine ⟨hsel, fun g x r' hr' D2 hD2 => ?_⟩
    unfold evOf at hr'
    split at hr'
    ·cases hr'
    ·rename_i D3 hD3
     have e3 : D3 = D2 := Option.some.inj (hD3.symm.trans hD2)
     subst e3
     split at hr'
     ·rename_i hnb
      exact hstub g D3 hD2 hnb x r' hr'
     ·rename_i c3 hc3
      refine .inl (fn_of_claim henv ih hD2 (hcards g D3 c3 hD2 hc3) ?_)
      rw [hr']
      simp
   ·intro j s' l' hm hgo a' w' hg' k' hk'
    exact ih f D' c hD hb w0 M Z0 γ0 b cs Post r hG hGB hfi j l' (.inr hm) s' (cast_some' hT.symm hgo) a' w' hg' k' hk'
end
end Go.GV
namespace Go.GV
def Conv {R : Type} (X : Nat → Option R) (x : Option R) : Prop := ∀ r, x = some r → ∃ N, ∀ n, N ≤ n → X n = some r
theorem Conv.none {R : Type} (X : Nat → Option R) : Conv X none := fun _ h => by cases h
theorem Conv.const {R : Type} (x : Option R) : Conv (fun _ => x) x := fun _ h => ⟨0, fun _ _ => h⟩
section
variable {E : Env} {R : Type}
theorem conv_guards {X : Nat → Option R} {x : Option R} (h : Conv X x) : ∀ g, Conv (fun n => guards g (X n)) (guards g x)
 | [] => h
 | b :: l => by
  cases b with
  | true => exact conv_guards h l
  | false => exact Conv.none _
theorem conv_cps {ev : Nat → Ev E} {evw : Ev E} (hev : ∀ f x, Conv (fun n => ev n f x) (evw f x)) {inl : Nat → FuncId → List Slot → St → (Slot → List (Nat × Ob) → Option R) → Option R} {inlw : FuncId → List Slot → St → (Slot → List (Nat × Ob) → Option R) → Option R}
  {K : Nat → St → Option R} {Kw : St → Option R} (hK : ∀ s, Conv (fun n => K n s) (Kw s)) (s1 : St) (d : Option Nat) (out : Out E) (hni : ∀ f x, out ≠ .inl f x) : Conv (fun n => out.cps (ev n) (inl n) s1 d (K n)) (out.cps evw inlw s1 d Kw) := by
 cases out with
 | go g x ob => exact conv_guards (hK _) g
 | br c x y => cases c <;> exact hK _
 | call f x k =>
  intro r h
  simp only [Out.cps, Option.bind_eq_some_iff] at h
  obtain ⟨r', h1, h2⟩ := h
  obtain ⟨N, hN⟩ := hev f x r' h1
  cases hk : k r' with
  | none => rw [hk] at h2; cases h2
  | some p =>
   rw [hk] at h2
   obtain ⟨N2, hN2⟩ := hK _ r h2
   refine ⟨max N N2, fun n hn => ?_⟩
   simp only [Out.cps, Option.bind_eq_some_iff]
   exact ⟨r', hN n (by omega), by rw [hk]; exact hN2 n (by omega)⟩
 | callN f x k q =>
  intro r h
  simp only [Out.cps, Option.bind_eq_some_iff] at h
  obtain ⟨r', h1, h2⟩ := h
  obtain ⟨N, hN⟩ := hev f x r' h1
  have key : ∀ b : Bool, (match k ((q r').2 b) with | some (y, l) => Kw ((s1.withOb (putAll s1.ob l)).setd d y) | none => none) = some r →
    ∃ N2, ∀ n, N2 ≤ n → (match k ((q r').2 b) with | some (y, l) => K n ((s1.withOb (putAll s1.ob l)).setd d y) | none => none) = some r := by
   intro b h3
   cases hk : k ((q r').2 b) with
   | none => rw [hk] at h3; cases h3
   | some p =>
    rw [hk] at h3
    obtain ⟨N2, hN2⟩ := hK _ r h3
    exact ⟨N2, fun n hn => hN2 n hn⟩
  cases hb : (q r').1 with
  | true =>
   rw [hb, cond_true] at h2
   obtain ⟨N2, hN2⟩ := key true h2
   refine ⟨max N N2, fun n hn => ?_⟩
   simp only [Out.cps, Option.bind_eq_some_iff]
   exact ⟨r', hN n (by omega), by rw [hb, cond_true]; exact hN2 n (by omega)⟩
  | false =>
   rw [hb, cond_false] at h2
   obtain ⟨N2, hN2⟩ := key false h2
   refine ⟨max N N2, fun n hn => ?_⟩
   simp only [Out.cps, Option.bind_eq_some_iff]
   exact ⟨r', hN n (by omega), by rw [hb, cond_false]; exact hN2 n (by omega)⟩
 | inl f x => exact absurd rfl (hni f x)
theorem conv_sel {K : Nat → Option Nat → Option R} {Kw : Option Nat → Option R} (hK : ∀ q, Conv (fun n => K n q) (Kw q)) {y : ByteArray} : ∀ l : List (ByteArray × Nat), Conv (fun n => selK l y (K n)) (selK l y Kw)
 | [] => hK none
 | (c, off) :: l => by
  unfold selK
  cases (y.toList == c.toList) with
  | true => exact hK _
  | false => exact conv_sel hK l
theorem conv_nil {K : Nat → Bool → Option R} {Kw : Bool → Option R} (hK : ∀ q, Conv (fun n => K n q) (Kw q)) (g e : Bool) : Conv (fun n => nilK g e (K n)) (nilK g e Kw) := by
 cases g with
 | true => exact hK _
 | false =>
  intro r h
  have h : agree (Kw e) (Kw (!e)) = some r := h
  unfold agree at h
  split at h
  ·rename_i hq
   obtain ⟨N, hN⟩ := hK e r h
   obtain ⟨N2, hN2⟩ := hK (!e) r (hq ▸ h)
   refine ⟨max N N2, fun n hn => ?_⟩
   show agree (K n e) (K n (!e)) = some r
   have h1 : K n e = some r := hN n (by omega)
   have h2 : K n (!e) = some r := hN2 n (by omega)
   unfold agree
   rw [h1, h2, if_pos rfl]
  ·cases h
theorem conv_step {ev : Nat → Ev E} {evw : Ev E} (hev : ∀ f x, Conv (fun n => ev n f x) (evw f x)) {inl : Nat → FuncId → List Slot → St → (Slot → List (Nat × Ob) → Option R) → Option R} {inlw : FuncId → List Slot → St → (Slot → List (Nat × Ob) → Option R) → Option R}
  (hinl : E.inl = []) {K : Nat → St → Option R} {Kw : St → Option R} (hK : ∀ s, Conv (fun n => K n s) (Kw s)) (s : St) (o : Oper) : Conv (fun n => stepK E (ev n) (inl n) s o (K n)) (stepK E evw inlw s o Kw) := by
 have hcall : ∀ {s s1 : St} {d : Option Nat} {f : FuncId} {xs : List Operand} {caps : List Slot} {out : Out E}, callOut E s d f xs caps = some (s1, out) → ∀ f x, out ≠ .inl f x := by
  intro s s1 d f xs caps out h f' x e
  obtain ⟨_, _, _, _, e2⟩ := callOut_go hinl h
  rw [e] at e2
  rcases e2 with e2 | e2 <;> cases e2
 unfold stepK
 cases hs : step E s o with
 | none =>
  dsimp only
  cases hiv : invk E s o with
  | none =>
   dsimp only
   cases selC E s o with
   | none =>
    dsimp only
    cases nilC E s o with
    | none => exact Conv.none _
    | some q => exact conv_nil (fun q => hK _) q.1 q.2
   | some q =>
    obtain ⟨b, y, l⟩ := q
    exact conv_sel (fun q => hK _) l
  | some q =>
   obtain ⟨r, f, s0, xs⟩ := q
   dsimp only
   cases hc : callOut E s0 o.dst f xs [] with
   | none => exact Conv.none _
   | some p =>
    obtain ⟨s1, out⟩ := p
    dsimp only
    split
    ·exact conv_cps hev (K := fun n s' => K n (s'.set r (.lf .u))) (Kw := fun s' => Kw (s'.set r (.lf .u))) (fun s => hK _) s1 o.dst out (hcall hc)
    ·exact Conv.none _
 | some p =>
  obtain ⟨s1, out⟩ := p
  dsimp only
  split
  ·refine conv_cps hev hK s1 o.dst out ?_
   rcases step_cases hs with ⟨g, x, ob, e⟩ | ⟨c, y, z, ho⟩ | ⟨c, y, ho, hc⟩
   ·rw [e]; intro f x e2; cases e2
   ·simp only [step, ho] at hs
    split at hs <;> cases hs
    intro f x e2; cases e2
   ·cases y with
    | func f =>
     simp only [step, ho, hc] at hs
     exact hcall hs
    | global g => simp only [step, ho, hc, St.opnd] at hs; cases hs
    | tmp t =>
     simp only [step, ho, hc] at hs
     split at hs
     ·split at hs
      ·exact hcall hs
      ·cases hs
     ·cases hs
    | const v =>
     simp only [step, ho, hc] at hs
     split at hs
     ·split at hs
      ·exact hcall hs
      ·cases hs
     ·cases hs
  ·exact Conv.none _
theorem conv_ops {ev : Nat → Ev E} {evw : Ev E} (hev : ∀ f x, Conv (fun n => ev n f x) (evw f x)) {inl : Nat → FuncId → List Slot → St → (Slot → List (Nat × Ob) → Option R) → Option R} {inlw : FuncId → List Slot → St → (Slot → List (Nat × Ob) → Option R) → Option R}
  (hinl : E.inl = []) {ops : Array Oper} {K : Nat → St → Option R} {Kw : St → Option R} (hK : ∀ s, Conv (fun n => K n s) (Kw s)) : ∀ (l : List Oper) (s : St), Conv (fun n => opsK E (ev n) (inl n) ops l s (K n)) (opsK E evw inlw ops l s Kw)
 | [], s => hK s
 | o :: l, s => by
  have ih := conv_ops hev (inl := inl) (inlw := inlw) hinl (ops := ops) hK l
  have hs := fun s => conv_step hev (inl := inl) (inlw := inlw) hinl ih s o
  simp only [opsK]
  cases o.guard with
  | none => exact hs s
  | some jw =>
   obtain ⟨j, want⟩ := jw
   dsimp only
   split
   ·split
    ·exact ih _
    ·rename_i c _
     cases c <;> cases want <;> first | exact hs _ | exact ih _
    ·exact Conv.none _
   ·exact Conv.none _
theorem conv_stepE {ev : Nat → Ev E} {evw : Ev E} (hev : ∀ f x, Conv (fun n => ev n f x) (evw f x)) {K : Nat → St → Ent → Option R} {Kw : St → Ent → Option R} (hK : ∀ s e, Conv (fun n => K n s e) (Kw s e)) (s : St) (o : Oper) : Conv (fun n => stepE E (ev n) s o (K n)) (stepE E evw s o Kw) := by
 unfold stepE
 cases hs : step E s o with
 | none => exact Conv.none _
 | some p =>
  obtain ⟨s1, out⟩ := p
  dsimp only
  split
  ·cases out with
   | go g x ob =>
    dsimp only
    split
    ·exact conv_guards (hK _ _) g
    ·exact Conv.none _
   | br c x y => cases c <;> exact hK _ _
   | call f x k =>
    dsimp only
    split
    ·intro r h
     rw [Option.bind_eq_some_iff] at h
     obtain ⟨r', h1, h2⟩ := h
     obtain ⟨N, hN⟩ := hev f x r' h1
     cases hk : k r' with
     | none => rw [hk] at h2; cases h2
     | some p =>
      rw [hk] at h2
      obtain ⟨N2, hN2⟩ := hK _ _ r h2
      refine ⟨max N N2, fun n hn => ?_⟩
      rw [Option.bind_eq_some_iff]
      exact ⟨r', hN n (by omega), by rw [hk]; exact hN2 n (by omega)⟩
    ·exact Conv.none _
   | callN f x k q => exact Conv.none _
   | inl f x => exact Conv.none _
  ·exact Conv.none _
theorem conv_opE {ev : Nat → Ev E} {evw : Ev E} (hev : ∀ f x, Conv (fun n => ev n f x) (evw f x)) {ops : Array Oper} {K : Nat → St → Ent → Option R} {Kw : St → Ent → Option R} (hK : ∀ s e, Conv (fun n => K n s e) (Kw s e)) (s : St) (o : Oper) : Conv (fun n => opE E (ev n) ops o s (K n)) (opE E evw ops o s Kw) := by
 have hs := fun s => conv_stepE hev hK s o
 simp only [opE]
 cases o.guard with
 | none => exact hs s
 | some jw =>
  obtain ⟨j, want⟩ := jw
  dsimp only
  split
  ·split
   ·exact hK _ _
   ·rename_i c _
    cases c <;> cases want <;> first | exact hs _ | exact hK _ _
   ·exact Conv.none _
  ·exact Conv.none _
theorem conv_drawG {ev : Nat → Ev E} {evw : Ev E} (hev : ∀ f x, Conv (fun n => ev n f x) (evw f x)) {ops : Array Oper} {K : Nat → St → Option R} {Kw : St → Option R} (hK : ∀ s, Conv (fun n => K n s) (Kw s)) :
  ∀ (l : List Oper) (acc : List Nat) (s : St) (lg : List (Nat × Oper × Ent)) (hw : Bool), Conv (fun n => drawG E (ev n) ops l acc s lg hw (K n)) (drawG E evw ops l acc s lg hw Kw)
 | [], acc, s, lg, hw => hK s
 | o :: l, acc, s, lg, hw => by
  have ih := conv_drawG hev (ops := ops) hK l
  simp only [drawG]
  refine conv_opE hev (fun s' e => ?_) s o
  split
  ·exact ih _ _ _ _
  ·exact Conv.none _
theorem conv_drawF {ev : Nat → Ev E} {evw : Ev E} (hev : ∀ f x, Conv (fun n => ev n f x) (evw f x)) {ops : Array Oper} {K : Nat → St → Option R} {Kw : St → Option R} (hK : ∀ s, Conv (fun n => K n s) (Kw s)) (s : St) :
  Conv (fun n => drawF E (ev n) ops s (K n)) (drawF E evw ops s Kw) := by
 unfold drawF
 split
 ·exact conv_drawG hev hK _ _ _ _ _
 ·exact Conv.none _
theorem conv_run {ev : Nat → Ev E} {evw : Ev E} (hev : ∀ f x, Conv (fun n => ev n f x) (evw f x)) (hinl : E.inl = []) {m : Nat} {go : Nat → Nat → St → Option R} {gow : Nat → St → Option R} (hgo : ∀ i s, Conv (fun n => go n i s) (gow i s)) {fi : St → Option R} :
  ∀ (k : Nat) (l : List It) (s : St), Conv (fun n => run E (ev n) m k (go n) fi l s) (run E evw m k gow fi l s)
 | 0, l, s => by cases l <;> exact Conv.none _
 | k + 1, [], s => Conv.const _
 | k + 1, .endB _ :: l, s => conv_run hev hinl hgo k l s
 | k + 1, .c x a :: l, s => by
  have ih := conv_run hev hinl (m := m) hgo (fi := fi) k
  cases a with
  | at_ i kp an =>
   simp only [run]
   split
   ·exact hgo _ _
   ·exact Conv.none _
  | _ =>
   simp only [run]
   cases x with
   | region id ops draw =>
    dsimp only
    split
    ·exact conv_drawF hev (fun s => ih l s) s
    ·exact conv_ops hev hinl (fun s => ih l s) ops.toList s
   | cond c x y =>
    dsimp only
    split
    ·rename_i b _
     cases c <;> cases b <;> exact ih _ _
    ·exact Conv.none _
   | exit id =>
    dsimp only
    split
    ·exact ih _ _
    ·exact Conv.none _
   | ret => exact Conv.const _
   | skip => exact ih _ _
   | seq x y => exact ih _ _
   | block id x => exact ih _ _
   | _ => exact Conv.none _
theorem conv_cast {A B : Type} (h : A = B) {X : Nat → Option A} {x : Option A} (hx : Conv X x) : Conv (fun n => cast (congrArg Option h) (X n)) (cast (congrArg Option h) x) := by subst h; exact hx
theorem conv_ev {st : Ev E} {X : Nat → (f : Nat) → Nat → St → Option (E.resT f).D} {Y : (f : Nat) → Nat → St → Option (E.resT f).D} (h : ∀ f i s, Conv (fun n => X n f i s) (Y f i s)) (f : Nat) (x : (E.argT f).D) : Conv (fun n => evOf E st (X n) f x) (evOf E st Y f x) := by
 unfold evOf
 split
 ·exact Conv.none _
 ·split
  ·exact Conv.const _
  ·exact h _ _ _
noncomputable def rnd (E : Env) (st : Ev E) (Y : (f : Nat) → Nat → St → Option (E.resT f).D) (f : Nat) (i : Nat) (s : St) : Option (E.resT f).D := match h : look E.fn f with
 | none => none
 | some D => cast (by rw [Env.resT, h]) (bodyD E (evOf E st Y) D (fun i s => cast (by rw [Env.resT, h]) (Y f i s)) i s)
theorem rn_succ (st : Ev E) (n f i : Nat) (s : St) : rn E st (n + 1) f i s = rnd E st (rn E st n) f i s := rfl
theorem conv_rnd (hinl : E.inl = []) {st : Ev E} {X : Nat → (f : Nat) → Nat → St → Option (E.resT f).D} {Y : (f : Nat) → Nat → St → Option (E.resT f).D} (h : ∀ f i s, Conv (fun n => X n f i s) (Y f i s)) (f i : Nat) (s : St) :
  Conv (fun n => rnd E st (X n) f i s) (rnd E st Y f i s) := by
 unfold rnd
 split
 ·exact Conv.none _
 ·rename_i D hD
  have hT : (E.resT f).D = (D.res.T.app D.par.inout.T).D := by rw [Env.resT, hD]
  exact conv_cast hT.symm (conv_run (conv_ev h) hinl (fun i s => conv_cast hT (h f i s)) _ _ _)
theorem rn_mono (hinl : E.inl = []) (st : Ev E) : ∀ n f i s r, rn E st n f i s = some r → rn E st (n + 1) f i s = some r
 | 0, f, i, s, r, h => by cases h
 | n + 1, f, i, s, r, h => by
  have ih := rn_mono hinl st n
  rw [rn_succ] at h ⊢
  obtain ⟨N, hN⟩ := conv_rnd hinl (X := fun _ => rn E st (n + 1)) (Y := rn E st n) (fun f i s r h => ⟨0, fun _ _ => ih f i s r h⟩) f i s r h
  exact hN N (Nat.le_refl _)
theorem rn_le (hinl : E.inl = []) (st : Ev E) {n n' f i : Nat} {s : St} {r : (E.resT f).D} (h : rn E st n f i s = some r) (hn : n ≤ n') : rn E st n' f i s = some r := by
 induction n' with
 | zero => have : n = 0 := by omega
           subst this; exact h
 | succ k ih =>
  by_cases hk : n ≤ k
  ·exact rn_mono hinl st k f i s r (ih hk)
  ·have : n = k + 1 := by omega
   subst this; exact h
open Classical in
/-- What a place of code comes to. -/
noncomputable def pl (E : Env) (st : Ev E) (f i : Nat) (s : St) : Option (E.resT f).D := if h : ∃ n r, rn E st n f i s = some r then rn E st (Classical.choose h) f i s else none
theorem pl_some (hinl : E.inl = []) {st : Ev E} {f i : Nat} {s : St} {r : (E.resT f).D} : pl E st f i s = some r ↔ ∃ n, rn E st n f i s = some r := by
 unfold pl
 constructor
 ·intro h
  split at h
  ·exact ⟨_, h⟩
  ·cases h
 ·rintro ⟨n, h⟩
  have hx : ∃ n r, rn E st n f i s = some r := ⟨n, r, h⟩
  rw [dif_pos hx]
  obtain ⟨r', h'⟩ := Classical.choose_spec hx
  have h1 := rn_le hinl st h (Nat.le_max_left n (Classical.choose hx))
  have h2 := rn_le hinl st h' (Nat.le_max_right n (Classical.choose hx))
  rw [h1] at h2
  rw [h', h2]
theorem pl_conv (hinl : E.inl = []) (st : Ev E) (f i : Nat) (s : St) : Conv (fun n => rn E st n f i s) (pl E st f i s) := fun r h => by
 obtain ⟨n, hn⟩ := (pl_some hinl).1 h
 exact ⟨n, fun k hk => rn_le hinl st hn hk⟩
theorem pl_eq (hinl : E.inl = []) (st : Ev E) (f i : Nat) (s : St) : pl E st f i s = rnd E st (pl E st) f i s := by
 apply Option.ext
 intro r
 constructor
 ·intro h
  obtain ⟨n, hn⟩ := (pl_some hinl).1 h
  cases n with
  | zero => cases hn
  | succ n =>
   rw [rn_succ] at hn
   obtain ⟨N, hN⟩ := conv_rnd hinl (X := fun _ => pl E st) (Y := rn E st n) (fun f i s r h => ⟨0, fun _ _ => (pl_some hinl).2 ⟨n, h⟩⟩) f i s r hn
   exact hN N (Nat.le_refl _)
 ·intro h
  obtain ⟨N, hN⟩ := conv_rnd hinl (pl_conv hinl st) f i s r h
  exact (pl_some hinl).2 ⟨N + 1, hN N (Nat.le_refl _)⟩
theorem fn_of_pl {P : Program} {GB : Nat → Prop} {G : World → Prop} (henv : envOK P E = true) (hsel : SelOK P E) (hinl : E.inl = []) (hmix : P.follows .mixedOrders = true) (hst : Stable GB G) (hcards : ∀ f D c, look E.fn f = some D → D.body = some c → CardOK P D c) {st : Ev E}
  (hstub : ∀ f D (hD : look E.fn f = some D), D.body = none → ∀ x r, st f x = some r → FnOK P GB G D (cast (by rw [Env.argT, hD]) x) (cast (by rw [Env.resT, hD]) r))
  {f : Nat} {D : FnD} {c : Code} (hD : look E.fn f = some D) (hc : D.body = some c) {x : D.par.T.D} {r : (D.res.T.app D.par.inout.T).D} (h : pl E st f 0 (start D x) = some (cast (by rw [Env.resT, hD]) r)) : FnB P GB G D x r := by
 obtain ⟨n, hn⟩ := (pl_some hinl).1 h
 exact fn_of_claim henv (claim_all henv hsel hinl hmix hst hcards hstub n) hD (hcards f D c hD hc) hn
end
end Go.GV
