/-
Part of the words that the laws of this seat are proved with: no statement of its own, no conditions.
-/
import Derived.Test.YtidgapgbnlcjgaaGreatDoorZ6
set_option linter.unusedVariables false
set_option linter.unusedSimpArgs false
namespace Go.GV
def Conv {R : Type} (X : Nat → Option R) (x : Option R) : Prop := ∀ r, x = some r → ∃ N, ∀ n, N ≤ n → X n = some r
theorem Conv.none {R : Type} (X : Nat → Option R) : Conv X none := fun _ h => by cases h
theorem Conv.const {R : Type} (x : Option R) : Conv (fun _ => x) x := fun _ h => ⟨0, fun _ _ => h⟩
section
variable {E : Env} {R : Type}
theorem oO {X : Nat → Option R} {x : Option R} (h : Conv X x) : ∀ g, Conv (fun n => aN g (X n)) (aN g x)
 | [] => h
 | b :: l => by
  cases b with
  | true => exact oO h l
  | false => exact Conv.none _
theorem kJ1 {ev : Nat → Ev E} {evw : Ev E} (hev : ∀ f x, Conv (fun n => ev n f x) (evw f x)) {inl : Nat → FuncId → List Slot → St → (Slot → List (Nat × Ob) → Option R) → Option R} {inlw : FuncId → List Slot → St → (Slot → List (Nat × Ob) → Option R) → Option R}
  {K : Nat → St → Option R} {Kw : St → Option R} (hK : ∀ s, Conv (fun n => K n s) (Kw s)) (s1 : St) (d : Option Nat) (out : Out E) (hni : ∀ f x, out ≠ .inl f x) : Conv (fun n => out.cps (ev n) (inl n) s1 d (K n)) (out.cps evw inlw s1 d Kw) := by
 cases out with
 | go g x ob => exact oO (hK _) g
 | br c x y => cases c <;> exact hK _
 | call f x k =>
  intro r h
  simp only [Out.cps, mH2] at h
  obtain ⟨r', h1, h2⟩ := h
  obtain ⟨N, hN⟩ := hev f x r' h1
  cases hk : k r' with
  | none => rw [hk] at h2; cases h2
  | some p =>
   rw [hk] at h2
   obtain ⟨N2, hN2⟩ := hK _ r h2
   refine ⟨max N N2, fun n hn => ?_⟩
   simp only [Out.cps, mH2]
   exact ⟨r', hN n (by omega), by rw [hk]; exact hN2 n (by omega)⟩
 | callN f x k q =>
  intro r h
  simp only [Out.cps, mH2] at h
  obtain ⟨r', h1, h2⟩ := h
  obtain ⟨N, hN⟩ := hev f x r' h1
  have key : ∀ b : Bool, (match k ((q r').2 b) with | some (y, l) => Kw ((s1.withOb (qG s1.ob l)).setd d y) | none => none) = some r →
    ∃ N2, ∀ n, N2 ≤ n → (match k ((q r').2 b) with | some (y, l) => K n ((s1.withOb (qG s1.ob l)).setd d y) | none => none) = some r := by
   intro b h3
   cases hk : k ((q r').2 b) with
   | none => rw [hk] at h3; cases h3
   | some p =>
    rw [hk] at h3
    obtain ⟨N2, hN2⟩ := hK _ r h3
    exact ⟨N2, fun n hn => hN2 n hn⟩
  cases hb : (q r').1 with
  | true =>
   rw [hb, cond_true] at h2
   obtain ⟨N2, hN2⟩ := key true h2
   refine ⟨max N N2, fun n hn => ?_⟩
   simp only [Out.cps, mH2]
   exact ⟨r', hN n (by omega), by rw [hb, cond_true]; exact hN2 n (by omega)⟩
  | false =>
   rw [hb, cond_false] at h2
   obtain ⟨N2, hN2⟩ := key false h2
   refine ⟨max N N2, fun n hn => ?_⟩
   simp only [Out.cps, mH2]
   exact ⟨r', hN n (by omega), by rw [hb, cond_false]; exact hN2 n (by omega)⟩
 | inl f x => exact absurd rfl (hni f x)
theorem bK1 {K : Nat → Option Nat → Option R} {Kw : Option Nat → Option R} (hK : ∀ q, Conv (fun n => K n q) (Kw q)) {y : ByteArray} : ∀ l : List (ByteArray × Nat), Conv (fun n => selK l y (K n)) (selK l y Kw)
 | [] => hK none
 | (c, off) :: l => by
  unfold selK
  cases (y.toList == c.toList) with
  | true => exact hK _
  | false => exact bK1 hK l
theorem pV1 {K : Nat → Bool → Option R} {Kw : Bool → Option R} (hK : ∀ q, Conv (fun n => K n q) (Kw q)) (g e : Bool) : Conv (fun n => nilK g e (K n)) (nilK g e Kw) := by
 cases g with
 | true => exact hK _
 | false =>
  intro r h
  have h : zH1 (Kw e) (Kw (!e)) = some r := h
  unfold zH1 at h
  split at h
  ·rename_i hq
   obtain ⟨N, hN⟩ := hK e r h
   obtain ⟨N2, hN2⟩ := hK (!e) r (hq ▸ h)
   refine ⟨max N N2, fun n hn => ?_⟩
   show zH1 (K n e) (K n (!e)) = some r
   have h1 : K n e = some r := hN n (by omega)
   have h2 : K n (!e) = some r := hN2 n (by omega)
   unfold zH1
   rw [h1, h2, if_pos rfl]
  ·cases h
theorem pN1 {ev : Nat → Ev E} {evw : Ev E} (hev : ∀ f x, Conv (fun n => ev n f x) (evw f x)) {inl : Nat → FuncId → List Slot → St → (Slot → List (Nat × Ob) → Option R) → Option R} {inlw : FuncId → List Slot → St → (Slot → List (Nat × Ob) → Option R) → Option R}
  (hinl : E.inl = []) {K : Nat → St → Option R} {Kw : St → Option R} (hK : ∀ s, Conv (fun n => K n s) (Kw s)) (s : St) (o : Oper) : Conv (fun n => pL E (ev n) (inl n) s o (K n)) (pL E evw inlw s o Kw) := by
 have hcall : ∀ {s s1 : St} {d : Option Nat} {f : FuncId} {xs : List Operand} {caps : List Slot} {out : Out E}, nF E s d f xs caps = some (s1, out) → ∀ f x, out ≠ .inl f x := by
  intro s s1 d f xs caps out h f' x e
  obtain ⟨_, _, _, _, e2⟩ := iJ hinl h
  rw [e] at e2
  rcases e2 with e2 | e2 <;> cases e2
 unfold pL
 cases hs : step E s o with
 | none =>
  dsimp only
  cases hiv : invk E s o with
  | none =>
   dsimp only
   cases selC E s o with
   | none =>
    dsimp only
    cases nilC E s o with
    | none => exact Conv.none _
    | some q => exact pV1 (fun q => hK _) q.1 q.2
   | some q =>
    obtain ⟨b, y, l⟩ := q
    exact bK1 (fun q => hK _) l
  | some q =>
   obtain ⟨r, f, s0, xs⟩ := q
   dsimp only
   cases hc : nF E s0 o.dst f xs [] with
   | none => exact Conv.none _
   | some p =>
    obtain ⟨s1, out⟩ := p
    dsimp only
    split
    ·exact kJ1 hev (K := fun n s' => K n (s'.set r (.lf .u))) (Kw := fun s' => Kw (s'.set r (.lf .u))) (fun s => hK _) s1 o.dst out (hcall hc)
    ·exact Conv.none _
 | some p =>
  obtain ⟨s1, out⟩ := p
  dsimp only
  split
  ·refine kJ1 hev hK s1 o.dst out ?_
   rcases aI hs with ⟨g, x, ob, e⟩ | ⟨c, y, z, ho⟩ | ⟨c, y, ho, hc⟩
   ·rw [e]; intro f x e2; cases e2
   ·simp only [step, ho] at hs
    split at hs <;> cases hs
    intro f x e2; cases e2
   ·cases y with
    | func f =>
     simp only [step, ho, hc] at hs
     exact hcall hs
    | global g => simp only [step, ho, hc, St.opnd] at hs; cases hs
    | tmp t =>
     simp only [step, ho, hc] at hs
     split at hs
     ·split at hs
      ·exact hcall hs
      ·cases hs
     ·cases hs
    | const v =>
     simp only [step, ho, hc] at hs
     split at hs
     ·split at hs
      ·exact hcall hs
      ·cases hs
     ·cases hs
  ·exact Conv.none _
theorem uK1 {ev : Nat → Ev E} {evw : Ev E} (hev : ∀ f x, Conv (fun n => ev n f x) (evw f x)) {inl : Nat → FuncId → List Slot → St → (Slot → List (Nat × Ob) → Option R) → Option R} {inlw : FuncId → List Slot → St → (Slot → List (Nat × Ob) → Option R) → Option R}
  (hinl : E.inl = []) {ops : Array Oper} {K : Nat → St → Option R} {Kw : St → Option R} (hK : ∀ s, Conv (fun n => K n s) (Kw s)) : ∀ (l : List Oper) (s : St), Conv (fun n => opsK E (ev n) (inl n) ops l s (K n)) (opsK E evw inlw ops l s Kw)
 | [], s => hK s
 | o :: l, s => by
  have ih := uK1 hev (inl := inl) (inlw := inlw) hinl (ops := ops) hK l
  have hs := fun s => pN1 hev (inl := inl) (inlw := inlw) hinl ih s o
  simp only [opsK]
  cases o.guard with
  | none => exact hs s
  | some jw =>
   obtain ⟨j, want⟩ := jw
   dsimp only
   split
   ·split
    ·exact ih _
    ·rename_i c _
     cases c <;> cases want <;> first | exact hs _ | exact ih _
    ·exact Conv.none _
   ·exact Conv.none _
theorem kL1 {ev : Nat → Ev E} {evw : Ev E} (hev : ∀ f x, Conv (fun n => ev n f x) (evw f x)) {K : Nat → St → Ent → Option R} {Kw : St → Ent → Option R} (hK : ∀ s e, Conv (fun n => K n s e) (Kw s e)) (s : St) (o : Oper) : Conv (fun n => mR E (ev n) s o (K n)) (mR E evw s o Kw) := by
 unfold mR
 cases hs : step E s o with
 | none => exact Conv.none _
 | some p =>
  obtain ⟨s1, out⟩ := p
  dsimp only
  split
  ·cases out with
   | go g x ob =>
    dsimp only
    split
    ·exact oO (hK _ _) g
    ·exact Conv.none _
   | br c x y => cases c <;> exact hK _ _
   | call f x k =>
    dsimp only
    split
    ·intro r h
     rw [mH2] at h
     obtain ⟨r', h1, h2⟩ := h
     obtain ⟨N, hN⟩ := hev f x r' h1
     cases hk : k r' with
     | none => rw [hk] at h2; cases h2
     | some p =>
      rw [hk] at h2
      obtain ⟨N2, hN2⟩ := hK _ _ r h2
      refine ⟨max N N2, fun n hn => ?_⟩
      rw [mH2]
      exact ⟨r', hN n (by omega), by rw [hk]; exact hN2 n (by omega)⟩
    ·exact Conv.none _
   | callN f x k q => exact Conv.none _
   | inl f x => exact Conv.none _
  ·exact Conv.none _
theorem sW1 {ev : Nat → Ev E} {evw : Ev E} (hev : ∀ f x, Conv (fun n => ev n f x) (evw f x)) {ops : Array Oper} {K : Nat → St → Ent → Option R} {Kw : St → Ent → Option R} (hK : ∀ s e, Conv (fun n => K n s e) (Kw s e)) (s : St) (o : Oper) : Conv (fun n => opE E (ev n) ops o s (K n)) (opE E evw ops o s Kw) := by
 have hs := fun s => kL1 hev hK s o
 simp only [opE]
 cases o.guard with
 | none => exact hs s
 | some jw =>
  obtain ⟨j, want⟩ := jw
  dsimp only
  split
  ·split
   ·exact hK _ _
   ·rename_i c _
    cases c <;> cases want <;> first | exact hs _ | exact hK _ _
   ·exact Conv.none _
  ·exact Conv.none _
theorem bY {ev : Nat → Ev E} {evw : Ev E} (hev : ∀ f x, Conv (fun n => ev n f x) (evw f x)) {ops : Array Oper} {K : Nat → St → Option R} {Kw : St → Option R} (hK : ∀ s, Conv (fun n => K n s) (Kw s)) :
  ∀ (l : List Oper) (acc : List Nat) (s : St) (lg : List (Nat × Oper × Ent)) (hw : Bool), Conv (fun n => sG1 E (ev n) ops l acc s lg hw (K n)) (sG1 E evw ops l acc s lg hw Kw)
 | [], acc, s, lg, hw => hK s
 | o :: l, acc, s, lg, hw => by
  have ih := bY hev (ops := ops) hK l
  simp only [sG1]
  refine sW1 hev (fun s' e => ?_) s o
  split
  ·exact ih _ _ _ _
  ·exact Conv.none _
theorem xM1 {ev : Nat → Ev E} {evw : Ev E} (hev : ∀ f x, Conv (fun n => ev n f x) (evw f x)) {ops : Array Oper} {K : Nat → St → Option R} {Kw : St → Option R} (hK : ∀ s, Conv (fun n => K n s) (Kw s)) (s : St) :
  Conv (fun n => yF1 E (ev n) ops s (K n)) (yF1 E evw ops s Kw) := by
 unfold yF1
 split
 ·exact bY hev hK _ _ _ _ _
 ·exact Conv.none _
theorem yZ {ev : Nat → Ev E} {evw : Ev E} (hev : ∀ f x, Conv (fun n => ev n f x) (evw f x)) (hinl : E.inl = []) {m : Nat} {go : Nat → Nat → St → Option R} {gow : Nat → St → Option R} (hgo : ∀ i s, Conv (fun n => go n i s) (gow i s)) {fi : St → Option R} :
  ∀ (k : Nat) (l : List It) (s : St), Conv (fun n => run E (ev n) m k (go n) fi l s) (run E evw m k gow fi l s)
 | 0, l, s => by cases l <;> exact Conv.none _
 | k + 1, [], s => Conv.const _
 | k + 1, .endB _ :: l, s => yZ hev hinl hgo k l s
 | k + 1, .c x a :: l, s => by
  have ih := yZ hev hinl (m := m) hgo (fi := fi) k
  cases a with
  | at_ i kp an =>
   simp only [run]
   split
   ·exact hgo _ _
   ·exact Conv.none _
  | _ =>
   simp only [run]
   cases x with
   | region id ops draw =>
    dsimp only
    split
    ·exact xM1 hev (fun s => ih l s) s
    ·exact uK1 hev hinl (fun s => ih l s) ops.toList s
   | cond c x y =>
    dsimp only
    split
    ·rename_i b _
     cases c <;> cases b <;> exact ih _ _
    ·exact Conv.none _
   | exit id =>
    dsimp only
    split
    ·exact ih _ _
    ·exact Conv.none _
   | ret => exact Conv.const _
   | skip => exact ih _ _
   | seq x y => exact ih _ _
   | block id x => exact ih _ _
   | _ => exact Conv.none _
theorem lD1 {A B : Type} (h : A = B) {X : Nat → Option A} {x : Option A} (hx : Conv X x) : Conv (fun n => cast (congrArg Option h) (X n)) (cast (congrArg Option h) x) := by subst h; exact hx
theorem pZ1 {st : Ev E} {X : Nat → (f : Nat) → Nat → St → Option (E.resT f).D} {Y : (f : Nat) → Nat → St → Option (E.resT f).D} (h : ∀ f i s, Conv (fun n => X n f i s) (Y f i s)) (f : Nat) (x : (E.argT f).D) : Conv (fun n => evOf E st (X n) f x) (evOf E st Y f x) := by
 unfold evOf
 split
 ·exact Conv.none _
 ·split
  ·exact Conv.const _
  ·exact h _ _ _
noncomputable def rnd (E : Env) (st : Ev E) (Y : (f : Nat) → Nat → St → Option (E.resT f).D) (f : Nat) (i : Nat) (s : St) : Option (E.resT f).D := match h : look E.fn f with
 | none => none
 | some D => cast (by rw [Env.resT, h]) (uV1 E (evOf E st Y) D (fun i s => cast (by rw [Env.resT, h]) (Y f i s)) i s)
theorem wO1 (st : Ev E) (n f i : Nat) (s : St) : rn E st (n + 1) f i s = rnd E st (rn E st n) f i s := rfl
theorem oC1 (hinl : E.inl = []) {st : Ev E} {X : Nat → (f : Nat) → Nat → St → Option (E.resT f).D} {Y : (f : Nat) → Nat → St → Option (E.resT f).D} (h : ∀ f i s, Conv (fun n => X n f i s) (Y f i s)) (f i : Nat) (s : St) :
  Conv (fun n => rnd E st (X n) f i s) (rnd E st Y f i s) := by
 unfold rnd
 split
 ·exact Conv.none _
 ·rename_i D hD
  have hT : (E.resT f).D = (D.res.T.app D.par.inout.T).D := by rw [Env.resT, hD]
  exact lD1 hT.symm (yZ (pZ1 h) hinl (fun i s => lD1 hT (h f i s)) _ _ _)
theorem lO1 (hinl : E.inl = []) (st : Ev E) : ∀ n f i s r, rn E st n f i s = some r → rn E st (n + 1) f i s = some r
 | 0, f, i, s, r, h => by cases h
 | n + 1, f, i, s, r, h => by
  have ih := lO1 hinl st n
  rw [wO1] at h ⊢
  obtain ⟨N, hN⟩ := oC1 hinl (X := fun _ => rn E st (n + 1)) (Y := rn E st n) (fun f i s r h => ⟨0, fun _ _ => ih f i s r h⟩) f i s r h
  exact hN N (zG2 _)
theorem bZ1 (hinl : E.inl = []) (st : Ev E) {n n' f i : Nat} {s : St} {r : (E.resT f).D} (h : rn E st n f i s = some r) (hn : n ≤ n') : rn E st n' f i s = some r := by
 induction n' with
 | zero => have : n = 0 := by omega
           subst this; exact h
 | succ k ih =>
  by_cases hk : n ≤ k
  ·exact lO1 hinl st k f i s r (ih hk)
  ·have : n = k + 1 := by omega
   subst this; exact h
open Classical in
/-- What a place of code comes to. -/
noncomputable def pl (E : Env) (st : Ev E) (f i : Nat) (s : St) : Option (E.resT f).D := if h : ∃ n r, rn E st n f i s = some r then rn E st (Classical.choose h) f i s else none
theorem dR (hinl : E.inl = []) {st : Ev E} {f i : Nat} {s : St} {r : (E.resT f).D} : pl E st f i s = some r ↔ ∃ n, rn E st n f i s = some r := by
 unfold pl
 constructor
 ·intro h
  split at h
  ·exact ⟨_, h⟩
  ·cases h
 ·rintro ⟨n, h⟩
  have hx : ∃ n r, rn E st n f i s = some r := ⟨n, r, h⟩
  rw [dif_pos hx]
  obtain ⟨r', h'⟩ := Classical.choose_spec hx
  have h1 := bZ1 hinl st h (Nat.le_max_left n (Classical.choose hx))
  have h2 := bZ1 hinl st h' (Nat.le_max_right n (Classical.choose hx))
  rw [h1] at h2
  rw [h', h2]
theorem wY1 (hinl : E.inl = []) (st : Ev E) (f i : Nat) (s : St) : Conv (fun n => rn E st n f i s) (pl E st f i s) := fun r h => by
 obtain ⟨n, hn⟩ := (dR hinl).1 h
 exact ⟨n, fun k hk => bZ1 hinl st hn hk⟩
theorem bE2 (hinl : E.inl = []) (st : Ev E) (f i : Nat) (s : St) : pl E st f i s = rnd E st (pl E st) f i s := by
 apply Option.ext
 intro r
 constructor
 ·intro h
  obtain ⟨n, hn⟩ := (dR hinl).1 h
  cases n with
  | zero => cases hn
  | succ n =>
   rw [wO1] at hn
   obtain ⟨N, hN⟩ := oC1 hinl (X := fun _ => pl E st) (Y := rn E st n) (fun f i s r h => ⟨0, fun _ _ => (dR hinl).2 ⟨n, h⟩⟩) f i s r hn
   exact hN N (zG2 _)
 ·intro h
  obtain ⟨N, hN⟩ := oC1 hinl (wY1 hinl st) f i s r h
  exact (dR hinl).2 ⟨N + 1, hN N (zG2 _)⟩
theorem eU1 {P : Program} {GB : Nat → Prop} {G : World → Prop} (henv : lE P E = true) (hsel : nL1 P E) (hinl : E.inl = []) (hmix : P.follows .mixedOrders = true) (hst : tJ GB G) (hcards : ∀ f D c, look E.fn f = some D → D.body = some c → CardOK P D c) {st : Ev E}
  (hstub : ∀ f D (hD : look E.fn f = some D), D.body = none → ∀ x r, st f x = some r → FnOK P GB G D (cast (by rw [Env.argT, hD]) x) (cast (by rw [Env.resT, hD]) r))
  {f : Nat} {D : FnD} {c : Code} (hD : look E.fn f = some D) (hc : D.body = some c) {x : D.par.T.D} {r : (D.res.T.app D.par.inout.T).D} (h : pl E st f 0 (uQ D x) = some (cast (by rw [Env.resT, hD]) r)) : FnB P GB G D x r := by
 obtain ⟨n, hn⟩ := (dR hinl).1 h
 exact gU henv (jE1 henv hsel hinl hmix hst hcards hstub n) hD (hcards f D c hD hc) hn
end
end Go.GV
