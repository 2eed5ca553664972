/-
Part of the words that the laws of this seat are proved with: no statement of its own, no conditions.
-/
import Derived.Test.YtaeejbmbkejjiaaGreatDoorZ2
import Derived.Orders
import Derived.Lib.SliceRun
import Derived.WalkSpells
set_option linter.unusedVariables false
set_option linter.unusedSimpArgs false
namespace Go.GV
def FnB (P : Program) (GB : Nat → Prop) (G : World → Prop) (D : FnD) (x : D.par.T.D) (r : (D.res.T.app D.par.inout.T).D) : Prop :=
 (∃ fn c, P.funcs[D.fid]? = some fn ∧ fn.body = some c ∧ (fn.name == "runtime.NumGoroutine") = false) ∧
 ∀ (w : World) (Z : Nat → Prop) (args : List Value) (bs : List Nat), G w → (∀ b, GB b → b < w.heap.size ∧ b ∉ bs) → (∀ b, Z b → b < w.heap.size) → bs.Nodup → (∀ b ∈ bs, ¬ Z b ∧ b < w.heap.size) →
  D.par.RepA w Z x args bs → Calls P D.fid args.toArray w fun e w' => ∃ v, e = .returned v ∧ Back D w Z args bs r v w'
def FnX (P : Program) (GB : Nat → Prop) (G : World → Prop) (D : FnD) (x : D.par.T.D) (r : (D.res.T.app D.par.inout.T).D) : Prop :=
 ∀ (w : World) (Z : Nat → Prop) (args : List Value) (bs : List Nat), G w → (∀ b, GB b → b < w.heap.size ∧ b ∉ bs) → (∀ b, Z b → b < w.heap.size) → bs.Nodup → (∀ b ∈ bs, ¬ Z b ∧ b < w.heap.size) →
  D.par.RepA w Z x args bs → ∃ v w', (callFunc D.fid args.toArray).run P w = .ok (.value v) w' ∧ Back D w Z args bs r v w'
def FnOK (P : Program) (GB : Nat → Prop) (G : World → Prop) (D : FnD) (x : D.par.T.D) (r : (D.res.T.app D.par.inout.T).D) : Prop := FnB P GB G D x r ∨ FnX P GB G D x r
def Stable (GB : Nat → Prop) (G : World → Prop) : Prop := ∀ w w' : World, w'.os = w.os → w'.tape = w.tape → (∀ b, GB b → w'.heap[b]? = w.heap[b]?) → G w → G w'
section
variable {P : Program} {E : Env} {GB : Nat → Prop} {G : World → Prop} {w0 : World} {M Z0 : Nat → Prop} {γ0 : Nat → Value} {m : Nat}
structure Good (w0 : World) (M Z0 : Nat → Prop) (γ0 : Nat → Value) (m : Nat) (s : St) (a : Act) (w : World) : Prop where
 st : ∃ Z γ, Inv w0 M Z0 w Z γ s.ob ∧ SlotsOK w Z γ s.ob s.sl a.tmps ∧ (∀ n, n < m → γ n = γ0 n)
 b : 1000 ≤ s.b
 d : a.defers = []
theorem setd_ok {w : World} {Z : Nat → Prop} {γ : Nat → Value} {ob : List (Nat × Ob)} {sl : List Slot} {a : Act} {d : Option Nat} {x : Slot} {v : Value} {b : Nat} (h : SlotsOK w Z γ ob sl a.tmps) (hx : SlotOK w Z γ ob x v) :
  SlotsOK w Z γ ob ((⟨sl, ob, b⟩ : St).setd d x).sl (a.put d v).tmps := by
 cases d with
 | none => exact h
 | some j =>
  refine ⟨by simpa [St.setd, St.set, Act.put] using h.len, fun i => ?_⟩
  have hi := h.ok i
  simp only [St.setd, St.set, Act.put, List.getD_eq_getElem?_getD, Array.getD_eq_getD_getElem?] at hi ⊢
  rw [List.getElem?_set, Array.getElem?_setIfInBounds]
  by_cases hij : j = i
  ·subst hij
   by_cases hlt : j < sl.length
   ·have : j < a.tmps.size := Nat.lt_of_lt_of_le hlt h.len
    simpa [hlt, this] using hx
   ·simp only [if_true, hlt, if_false]
    trivial
  ·simpa [hij] using hi
theorem setd_same {w : World} {Z : Nat → Prop} {γ : Nat → Value} {ob : List (Nat × Ob)} {sl : List Slot} {tm : Array Value} {j : Nat} {x : Slot} (h : SlotsOK w Z γ ob sl tm) (hx : SlotOK w Z γ ob x (tm.getD j undef)) : SlotsOK w Z γ ob (sl.set j x) tm := by
 refine ⟨by simpa using h.len, fun i => ?_⟩
 have hi := h.ok i
 simp only [List.getD_eq_getElem?_getD] at hi ⊢
 rw [List.getElem?_set]
 by_cases hij : j = i
 ·subst hij
  by_cases hlt : j < sl.length
  ·simpa [hlt] using hx
  ·simp only [if_true, hlt, if_false]; trivial
 ·simpa [hij] using hi
theorem setd_ob (s : St) (d : Option Nat) (x : Slot) : (s.setd d x).ob = s.ob ∧ (s.setd d x).b = s.b := by cases d <;> exact ⟨rfl, rfl⟩
theorem put_defers (a : Act) (d : Option Nat) (v : Value) : (a.put d v).defers = a.defers := by cases d <;> rfl
theorem guards_some {R : Type} {r : R} : ∀ {g : List Bool} {x : Option R}, guards g x = some r → g.all id = true ∧ x = some r
 | [], x, h => ⟨rfl, h⟩
 | b :: l, x, h => by
  cases b with
  | false => cases h
  | true =>
   obtain ⟨h1, h2⟩ := guards_some (g := l) h
   exact ⟨by simpa using h1, h2⟩
theorem Good.does {s1 : St} {a : Act} {o : Oper} {x : Slot} {ob' : List (Nat × Ob)} {w : World} (hm : m ≤ 1000) (hb : 1000 ≤ s1.b) (hd : a.defers = []) {γ : Nat → Value} (hγ : ∀ n, n < m → γ n = γ0 n) (h : Does P w0 M Z0 w γ a o s1 x ob') :
  ∃ v w', ((execOp a.eval o).run P w = .ok (.value v) w' ∨ ((execOp a.eval o).run P w = .ok .skip w' ∧ v = undef)) ∧ Good w0 M Z0 γ0 m ((s1.withOb ob').setd o.dst x) (a.put o.dst v) w' := by
 obtain ⟨v, w', Z', γ', hr, hi, hx, hs, hk⟩ := h
 refine ⟨v, w', hr, ⟨⟨Z', γ', by rw [(setd_ob _ _ _).1]; exact hi, ?_, fun n hn => (hk hb n (by omega)).trans (hγ n hn)⟩, by rw [(setd_ob _ _ _).2]; exact hb, by rw [put_defers]; exact hd⟩⟩
 have := setd_ok (b := s1.b) (d := o.dst) hs hx
 rw [(setd_ob _ _ _).1]
 exact this
def selF : List (ByteArray × Nat) → ByteArray → Option Nat
 | [], _ => none
 | (c, off) :: l, x => if (x.toList == c.toList) = true then some off else selF l x
def selV (g : Nat) (q : Option Nat) : Value := match q with | some off => .pointer (some ⟨g, off, none⟩) | none => .pointer none
def SelOK (P : Program) (E : Env) : Prop := ∀ f l, look E.sels f = some l → (∃ fn c, P.funcs[f]? = some fn ∧ fn.body = some c ∧ (fn.name == "runtime.NumGoroutine") = false) ∧
 ∀ (g : Nat) (x : ByteArray) (w : World), Calls P f #[.pointer (some ⟨g, 0, none⟩), .string x] w fun e w' => e = .returned (selV g (selF l x)) ∧ w' = w
theorem selK_some {R : Type} {K : Option Nat → Option R} {r : R} {x : ByteArray} : ∀ {l : List (ByteArray × Nat)}, selK l x K = some r → K (selF l x) = some r
 | [], h => h
 | (c, off) :: l, h => by
  unfold selK at h
  unfold selF
  cases hb : (x.toList == c.toList) with
  | true => rw [hb, cond_true] at h; rw [if_pos rfl]; exact h
  | false => rw [hb, cond_false] at h; rw [if_neg (by simp)]; exact selK_some h
def EvOK (P : Program) (GB : Nat → Prop) (G : World → Prop) (E : Env) (ev : Ev E) : Prop :=
 SelOK P E ∧ ∀ key x r, ev key x = some r → ∀ D (h : look E.fn key = some D), FnOK P GB G D (cast (by rw [Env.argT, h]) x) (cast (by rw [Env.resT, h]) r)
theorem Good.g {s : St} {a : Act} {w : World} (h : Good w0 M Z0 γ0 m s a w) (hst : Stable GB G) (hG : G w0) (hGB : ∀ b, GB b → b < w0.heap.size ∧ ¬ M b) : G w ∧ ∀ b, GB b → b < w.heap.size := by
 obtain ⟨⟨Z, γ, hi, _⟩, _, _⟩ := h
 exact ⟨hst w0 w hi.frm.os hi.frm.tape (fun b hb => hi.frm.block b (hGB b hb).1 (hGB b hb).2) hG, fun b hb => Nat.lt_of_lt_of_le (hGB b hb).1 hi.frm.size⟩
theorem cps_callN {R : Type} {ev : Ev E} {inl : FuncId → List Slot → St → (Slot → List (Nat × Ob) → Option R) → Option R} {s : St} {d : Option Nat} {K : St → Option R} {r : R} {f : Nat} {x : (E.argT f).D} {k : (E.resT f).D → Option (Slot × List (Nat × Ob))}
  (h : (Out.callN f x k (E.resT f).optQ).cps ev inl s d K = some r) : (Out.call f x k).cps ev inl s d K = some r := by
 simp only [Out.cps, Option.bind_eq_some_iff] at h ⊢
 obtain ⟨r', h1, h2⟩ := h
 refine ⟨r', h1, ?_⟩
 have hq := Tys.optQ_eq (E.resT f) r'
 cases hb : ((E.resT f).optQ r').1 with
 | true =>
  rw [hb] at h2 hq
  rw [cond_true, hq] at h2
  exact h2
 | false =>
  rw [hb] at h2 hq
  rw [cond_false, hq] at h2
  exact h2
theorem do_call' (hst : Stable GB G) (hG : G w0) (hGB : ∀ b, GB b → b < w0.heap.size ∧ ¬ M b) (hm : m ≤ 1000) {R : Type} {ev : Ev E} (hev : EvOK P GB G E ev) {inl : FuncId → List Slot → St → (Slot → List (Nat × Ob) → Option R) → Option R}
  {s s1 : St} {a : Act} {w : World} {o : Oper} {out : Out E} {f : FuncId} {xs : List Operand} {caps : List Slot} {cs : List Nat} (hinl : E.inl = []) (h : callOut E s o.dst f xs caps = some (s1, out)) {K : St → Option R} {r : R} (hr : out.cps ev inl s1 o.dst K = some r)
  (hg : Good w0 M Z0 γ0 m s a w) (hcaps : caps = cs.map fun b => .lf (.p b 0)) {a0 : Act} {F : Act → World → Prop} (hF : ∀ s' v w', K s' = some r → Good w0 M Z0 γ0 m s' (a.put o.dst v) w' → F (a0.put o.dst v) w')
  (hcs : ∀ Z γ, SlotsOK w Z γ s.ob s.sl a.tmps → (∀ b ∈ cs, ∃ g, γ b = .pointer (some ⟨g, 0, none⟩)) ∧ (execOp a0.eval o).run P w = (callFunc f (xs.map a.eval ++ cs.map γ).toArray).run P w) {Q : Exit → Act → World → Prop} :
  o.wp P a0 w F Q := by
 have hGw := hg.g hst hG hGB
 obtain ⟨⟨Z, γ, hi, hs, hγ⟩, hb, hd⟩ := hg
 obtain ⟨hcs1, hrun⟩ := hcs Z γ hs
 unfold callOut at h
 split at h
 ·cases h
 ·rw [hinl] at h
  simp only [look] at h
  split at h
  ·cases h
  ·rename_i key _
   split at h
   ·cases h
   ·rename_i D hD
    split at h
    ·rename_i hf
     have hf := beqt.1 hf
     split at h
     ·rename_i s2 x k hc
      simp only [Option.some.injEq, Prod.mk.injEq] at h
      obtain ⟨h1, h2⟩ := h
      have hr : (Out.call key (cast (by rw [Env.argT, hD]) x) fun r => k (cast (by rw [Env.resT, hD]) r)).cps ev inl s1 o.dst K = some r := by
       subst h2
       split at hr
       ·exact cps_callN hr
       ·exact hr
      subst h1
      simp only [Out.cps, Option.bind_eq_some_iff] at hr
      obtain ⟨r', hr1, hr2⟩ := hr
      have hfn := hev.2 key _ r' hr1 D hD
      simp only [cast_cast, cast_eq] at hfn
      obtain ⟨Zc, bs, h3, h4, h5, h6, h7, h8⟩ := callD_ok hc hi hs hb hcaps hcs1
      have hpre : (∀ b, GB b → b < w.heap.size ∧ b ∉ bs) ∧ (∀ b ∈ bs, ¬ Zc b ∧ b < w.heap.size) := ⟨fun b hbb => ⟨hGw.2 b hbb, fun hx => (hGB b hbb).2 ((h5 b hx).2.2 (hGB b hbb).1)⟩, fun b hbb => ⟨(h5 b hbb).1, (h5 b hbb).2.1⟩⟩
      split at hr2
      ·rename_i y l hk
       have fin : ∀ v w', Back D w Zc (xs.map a.eval ++ cs.map γ) bs (cast (by rw [Env.resT, hD]) r') v w' → F (a0.put o.dst v) w' := by
        intro v w' hbk
        obtain ⟨Zn, γn, h9, h10, h11, h12⟩ := h8 _ y l v w' hk hbk
        refine hF _ v w' hr2 ⟨⟨Zn, γn, by rw [(setd_ob _ _ _).1]; exact h9, ?_, fun n hn => (h12 n (by omega)).trans (hγ n hn)⟩, by rw [(setd_ob _ _ _).2]; show 1000 ≤ s2.b; omega, by rw [put_defers]; exact hd⟩
        rw [(setd_ob _ _ _).1]
        exact setd_ok h11 h10
       rcases hfn with ⟨⟨fn, c, hfn1, hfn2, hfn3⟩, hcall⟩ | hext
       ·have hcalls := hcall w Zc _ bs hGw.1 hpre.1 h6 h4 hpre.2 h3
        unfold Oper.wp
        rw [hrun]
        have hen : (callFunc f (xs.map a.eval ++ cs.map γ).toArray).run P w = .ok (.enter f (xs.map a.eval ++ cs.map γ).toArray) w := by
         have h1 : fn.name ≠ "runtime.NumGoroutine" := by simpa using hfn3
         rw [← hf]
         simp [callFunc, hfn1, h1, hfn2]
        rw [hen, Oper.upon_enter, ← hf]
        refine Calls.mono hcalls fun e w' he => ?_
        obtain ⟨v, rfl, hbk⟩ := he
        exact fin v w' hbk
       ·obtain ⟨v, w', hv, hbk⟩ := hext w Zc _ bs hGw.1 hpre.1 h6 h4 hpre.2 h3
        unfold Oper.wp
        rw [hrun, ← hf, hv]
        exact fin v w' hbk
      ·cases hr2
     ·cases h
    ·cases h
theorem do_call (hst : Stable GB G) (hG : G w0) (hGB : ∀ b, GB b → b < w0.heap.size ∧ ¬ M b) (hm : m ≤ 1000) {R : Type} {ev : Ev E} (hev : EvOK P GB G E ev) {inl : FuncId → List Slot → St → (Slot → List (Nat × Ob) → Option R) → Option R}
  {s s1 : St} {a : Act} {w : World} {o : Oper} {out : Out E} {f : FuncId} {xs : List Operand} {caps : List Slot} {cs : List Nat} (hinl : E.inl = []) (h : callOut E s o.dst f xs caps = some (s1, out)) {K : St → Option R} {r : R} (hr : out.cps ev inl s1 o.dst K = some r)
  (hg : Good w0 M Z0 γ0 m s a w) (hcaps : caps = cs.map fun b => .lf (.p b 0)) (hcs : ∀ Z γ, SlotsOK w Z γ s.ob s.sl a.tmps → (∀ b ∈ cs, ∃ g, γ b = .pointer (some ⟨g, 0, none⟩)) ∧ ∀ w', (execOp a.eval o).run P w' = (callFunc f (xs.map a.eval ++ cs.map γ).toArray).run P w') {Q : Exit → Act → World → Prop} :
  o.wp P a w (fun a' w' => ∃ s', K s' = some r ∧ Good w0 M Z0 γ0 m s' a' w') Q :=
 do_call' hst hG hGB hm hev hinl h hr hg hcaps (fun s' _ _ h1 h2 => ⟨s', h1, h2⟩) fun Z γ hs => ⟨(hcs Z γ hs).1, (hcs Z γ hs).2 w⟩
theorem run_method {T : TypeId} {name : String} {f : FuncId} {d : Option TypeId} (h : methOK P (T, name, f, d) = true) (ad : Addr) (w : World) {rv : Value} (hd : match d with | none => rv = .pointer (some ad) | some U => (loadVar U ad).run P w = .ok rv w) (args : Array Value) :
  (callMethod (.iface T (.pointer (some ad))) name args).run P w = (callFunc f (#[rv] ++ args)).run P w := by
 simp only [methOK, Bool.and_eq_true] at h
 obtain ⟨hsz, h⟩ := h
 split at h
 ·rename_i i e hi hu
  split at h
  ·rename_i mt hmt
   simp only [Bool.and_eq_true] at h
   obtain ⟨hp, h⟩ := h
   split at h
   ·rename_i f' ptr hfn
    simp only [Bool.and_eq_true, beqt] at h
    obtain ⟨hf, hk⟩ := h
    subst hf
    have hsz := Nat.le_of_ble_eq_true hsz
    obtain ⟨n, hn⟩ : ∃ n, P.types.size + Made.depth = n + 1 := ⟨P.types.size + Made.depth - 1, by omega⟩
    have hpath : mt.path = #[] := by simpa using hp
    unfold callMethod
    simp only [Sem.run_bind, run_program, Result.andThen_ok, hn, method, typeInfo, hi, Sem.run_pure, hmt, hpath, follow, hfn, receiverAt, run_underlying hu, Place.get]
    cases d with
    | none =>
     have hk : ptr = true := hk
     subst hk
     have hd : rv = .pointer (some ad) := hd
     subst hd
     simp
    | some U =>
     have hk : (!ptr && Nat.beq U e) = true := hk
     simp only [Bool.and_eq_true, Bool.not_eq_true', beqt] at hk
     obtain ⟨h1, h2⟩ := hk
     subst h1 h2
     have hd : (loadVar U ad).run P w = .ok rv w := hd
     have hchk : ∀ nm : String, (Builtin.ssaWrapNilChk_ #[T] T #[.pointer (some ad), strVal "", strVal nm]).run P w = .ok (.pointer (some ad)) w := fun _ => rfl
     simp [hchk, asAddr, hd]
   ·cases h
  ·cases h
 ·cases h
theorem beq_self' (n : Nat) : Nat.beq n n = true := beqt.2 rfl
theorem forget_ok {s' : St} {a : Act} {w' : World} {Z : Nat → Prop} {γ : Nat → Value} {r : Nat} {rv v : Value} {d : Option Nat} (hs : SlotsOK w' Z γ s'.ob s'.sl ((a.put (some r) rv).put d v).tmps) (hd : ∀ k, d = some k → k ≠ r) : SlotsOK w' Z γ (s'.set r (.lf .u)).ob (s'.set r (.lf .u)).sl (a.put d v).tmps := by
 have hsz : ((a.put (some r) rv).put d v).tmps.size = (a.put d v).tmps.size := by cases d <;> simp [Act.put]
 refine ⟨by have := hs.len; simp only [St.set, List.length_set]; omega, fun i => ?_⟩
 by_cases hi : i = r
 ·subst hi
  have : (s'.set i (.lf .u)).sl.getD i (.lf .u) = .lf .u := by
   simp only [St.set, List.getD_eq_getElem?_getD, List.getElem?_set]
   simp only [if_true]
   split <;> rfl
  rw [this]
  trivial
 ·have h1 : (s'.set r (.lf .u)).sl.getD i (.lf .u) = s'.sl.getD i (.lf .u) := by
   simp only [St.set, List.getD_eq_getElem?_getD, List.getElem?_set_ne (Ne.symm hi)]
  have h2 : (a.put d v).tmps.getD i undef = ((a.put (some r) rv).put d v).tmps.getD i undef := by
   cases d with
   | none => simp [Act.put, Array.getD_eq_getD_getElem?, Array.getElem?_setIfInBounds, Ne.symm hi]
   | some k =>
    simp only [Act.put, Array.getD_eq_getD_getElem?, Array.getElem?_setIfInBounds, Array.size_setIfInBounds]
    by_cases hk : k = i
    ·subst hk; simp
    ·simp [hk, Ne.symm hi]
  rw [h1, h2]
  exact hs.ok i
theorem wp_of_run {o : Oper} {a : Act} {w w' : World} {v : Value} {K : Act → World → Prop} {Q : Exit → Act → World → Prop} (hr : (execOp a.eval o).run P w = .ok (.value v) w' ∨ ((execOp a.eval o).run P w = .ok .skip w' ∧ v = undef)) (h : K (a.put o.dst v) w') : o.wp P a w K Q := by
 unfold Oper.wp
 rcases hr with hr | ⟨hr, e⟩
 ·rw [hr]; exact h
 ·subst e; rw [hr]; exact h
theorem callOut_go {s s1 : St} {d : Option Nat} {f : FuncId} {xs : List Operand} {caps : List Slot} {out : Out E} (hinl : E.inl = []) (h : callOut E s d f xs caps = some (s1, out)) : ∃ key x k q, out = .call key x k ∨ out = .callN key x k q := by
 unfold callOut at h
 split at h
 ·cases h
 ·rw [hinl] at h
  simp only [look] at h
  split at h
  ·cases h
  ·split at h
   ·cases h
   ·split at h
    ·split at h
     ·simp only [Option.some.injEq, Prod.mk.injEq] at h
      have h2 := h.2
      split at h2
      ·exact ⟨_, _, _, _, .inr h2.symm⟩
      ·exact ⟨_, _, _, Tys.optQ _, .inl h2.symm⟩
     ·cases h
    ·cases h
theorem step_cases {s s1 : St} {o : Oper} {out : Out E} (h : step E s o = some (s1, out)) :
  (∃ g x ob, out = .go g x ob) ∨ (∃ c y z, o.op = .pick c y z) ∨ ∃ c y, o.op = .call c ∧ c.callee = .value y := by
 cases ho : o.op with
 | pick c y z => exact .inr (.inl ⟨_, _, _, rfl⟩)
 | call c =>
  cases hb : c.callee with
  | value y => exact .inr (.inr ⟨c, y, rfl, hb⟩)
  | invoke r m => simp only [step, ho, hb] at h; cases h
  | builtin b =>
   refine .inl ?_
   cases b <;> first
    | (simp only [step, ho, hb] at h; cases h; done)
    | (simp only [step, ho, hb, appd] at h; (repeat' (split at h)) <;> first | (cases h; done) | (cases h; exact ⟨_, _, _, rfl⟩))
 | slice T y lo hi mx =>
  refine .inl ?_
  cases mx <;> simp only [step, ho] at h <;> (repeat' (split at h)) <;> first | (cases h; done) | (cases h; exact ⟨_, _, _, rfl⟩)
 | typeAssert y T U b =>
  refine .inl ?_
  cases b <;> simp only [step, ho] at h <;> (repeat' (split at h)) <;> first | (cases h; done) | (cases h; exact ⟨_, _, _, rfl⟩)
 | makeFunc f l m =>
  refine .inl ?_
  cases f <;> simp only [step, ho] at h <;> (repeat' (split at h)) <;> first | (cases h; done) | (cases h; exact ⟨_, _, _, rfl⟩)
 | _ =>
  refine .inl ?_
  simp only [step, ho] at h
  first
   | (cases h; done)
   | (cases h; exact ⟨_, _, _, rfl⟩)
   | ((repeat' (split at h)) <;> first | (cases h; done) | (cases h; exact ⟨_, _, _, rfl⟩))
theorem nilC_run (henv : envOK P E = true) {R : Type} {s : St} {a : Act} {w : World} {Z : Nat → Prop} {γ : Nat → Value} {o : Oper} {g e : Bool} {K : Bool → Option R} {r : R} (h : nilC E s o = some (g, e)) (hs : SlotsOK w Z γ s.ob s.sl a.tmps) (hk : nilK g e K = some r) :
  ∃ b, (execOp a.eval o).run P w = .ok (.value (.bool b)) w ∧ K b = some r := by
 have fin : ∀ q : Bool, (g = true → q = false) → K (if e = true then q else !q) = some r := by
  intro q hq
  cases g with
  | true =>
   rw [hq rfl]
   have hk : K (!e) = some r := hk
   cases e <;> exact hk
  | false =>
   have hk : agree (K e) (K (!e)) = some r := hk
   unfold agree at hk
   split at hk
   ·rename_i hk2
    have hk3 : K (!e) = some r := by rw [← hk2]; exact hk
    cases e <;> cases q <;> first | exact hk | exact hk3
   ·cases hk
 unfold nilC at h
 split at h
 ·rename_i op T x y bx ho
  split at h
  ·rename_i e1 t1 xs e2 t2 h1 h2 h3
   have hx := opnd_lf h1 hs
   have hy : a.eval y = .slice none 0 0 := opnd_lf h2 hs
   have hT := (tyOK_row (envOK_t henv h3)).1
   obtain ⟨A, n, c, hv, hA⟩ : ∃ A n c, a.eval x = .slice A n c ∧ (0 < (xs : List t1.D).length → A.isNone = false) := by
    have hx : (Ty.row e1 t1).Rep w Z xs [a.eval x] := hx
    obtain ⟨A, cap, news, e, _, _, h4⟩ := hx
    refine ⟨A, _, cap, by simpa using e, fun hp => ?_⟩
    rcases h4 with ⟨h5, _⟩ | ⟨ad, rfl, _⟩
    ·rw [h5] at hp
     exact absurd hp (by simp)
    ·rfl
   have q1 : (binOp .eql T (.slice A n c) (.slice none 0 0)).run P w = .ok (.bool A.isNone) w := Lib.run_eql_slice_nil w _ _ A n c 0 0 hT
   have q2 : (binOp .neq T (.slice A n c) (.slice none 0 0)).run P w = .ok (.bool (!A.isNone)) w := run_neq_slice_nil_any w _ _ A n c 0 0 hT
   split at h
   ·cases h
    refine ⟨A.isNone, ?_, fin A.isNone fun hq => hA (of_decide_eq_true hq)⟩
    simp only [execOp, ho, Sem.run_bind, hv, hy, run_eqGuard (P := P) (w := w) (op := .eql) (T := T) (x := x) (y := y) (u := .slice A n c) (v := .slice none 0 0) (by simp) (by simp), q1, Sem.run_pure, Result.andThen_ok]
   ·cases h
    refine ⟨!A.isNone, ?_, fin A.isNone fun hq => hA (of_decide_eq_true hq)⟩
    simp only [execOp, ho, Sem.run_bind, hv, hy, run_eqGuard (P := P) (w := w) (op := .neq) (T := T) (x := x) (y := y) (u := .slice A n c) (v := .slice none 0 0) (by simp) (by simp), q2, Sem.run_pure, Result.andThen_ok]
   ·cases h
  ·rename_i e2 t2 h1 h2 h3
   have hx : a.eval x = .slice none 0 0 := opnd_lf h1 hs
   have hy : a.eval y = .slice none 0 0 := opnd_lf h2 hs
   have hT := (tyOK_row (envOK_t henv h3)).1
   have q1 : (binOp .eql T (.slice none 0 0) (.slice none 0 0)).run P w = .ok (.bool true) w := Lib.run_eql_slice_nil w _ _ none 0 0 0 0 hT
   have q2 : (binOp .neq T (.slice none 0 0) (.slice none 0 0)).run P w = .ok (.bool false) w := run_neq_slice_nil_any w _ _ none 0 0 0 0 hT
   split at h
   ·cases h
    refine ⟨true, ?_, hk⟩
    simp only [execOp, ho, Sem.run_bind, hx, hy, run_eqGuard (P := P) (w := w) (op := .eql) (T := T) (x := x) (y := y) (u := .slice none 0 0) (v := .slice none 0 0) (by simp) (by simp), q1, Sem.run_pure, Result.andThen_ok]
   ·cases h
    refine ⟨false, ?_, hk⟩
    simp only [execOp, ho, Sem.run_bind, hx, hy, run_eqGuard (P := P) (w := w) (op := .neq) (T := T) (x := x) (y := y) (u := .slice none 0 0) (v := .slice none 0 0) (by simp) (by simp), q2, Sem.run_pure, Result.andThen_ok]
   ·cases h
  ·cases h
 ·cases h
theorem stepK_ok (henv : envOK P E = true) (hinl : E.inl = []) (hst : Stable GB G) (hG : G w0) (hGB : ∀ b, GB b → b < w0.heap.size ∧ ¬ M b) (hm : m ≤ 1000) {R : Type} {ev : Ev E} (hev : EvOK P GB G E ev)
  {inl : FuncId → List Slot → St → (Slot → List (Nat × Ob) → Option R) → Option R} {s : St} {a : Act} {w : World} {o : Oper} {K : St → Option R} {r : R} (h : stepK E ev inl s o K = some r) (hg : Good w0 M Z0 γ0 m s a w) {Q : Exit → Act → World → Prop} :
  o.wp P a w (fun a' w' => ∃ s', K s' = some r ∧ Good w0 M Z0 γ0 m s' a' w') Q := by
 unfold stepK at h
 split at h
 ·rename_i s1 out hs1
  split at h
  ·rename_i hb1
   have hb1 := beqt.1 hb1
   have hb := hg.b
   rcases step_cases hs1 with ⟨g, x, ob', rfl⟩ | ⟨c, y, z, ho⟩ | ⟨c, y, ho, hc⟩
   ·obtain ⟨h1, h2⟩ := guards_some h
    obtain ⟨⟨Z, γ, hi, hs, hγ⟩, _, hd⟩ := hg
    obtain ⟨v, w', hr, hgd⟩ := Good.does (γ0 := γ0) hm (by omega) hd hγ (step_go henv hs1 h1 hi hs)
    exact wp_of_run hr ⟨_, h2, hgd⟩
   ·simp only [step, ho] at hs1
    split at hs1
    ·rename_i cb x1 x2 h1 h2 h3
     cases hs1
     obtain ⟨⟨Z, γ, hi, hs, hγ⟩, _, hd⟩ := hg
     have hcv := opnd_bool h1 hs
     have hrun : ∀ b : Bool, a.eval c = .bool b → (execOp a.eval o).run P w = .ok (.value (if b = true then a.eval y else a.eval z)) w := by
      intro b hcv
      simp only [execOp, ho, Sem.run_bind, hcv, asBool, Sem.run_pure, Result.andThen_ok]
     have hrun := hrun cb hcv
     refine wp_of_run (.inl hrun) ?_
     simp only [Out.cps] at h
     cases cb with
     | true => exact ⟨_, h, ⟨⟨Z, γ, by rw [(setd_ob _ _ _).1]; exact hi, by rw [(setd_ob _ _ _).1]; exact setd_ok (b := s.b) hs (opnd_ok h2 hs), hγ⟩, by rw [(setd_ob _ _ _).2]; exact hb, by rw [put_defers]; exact hd⟩⟩
     | false => exact ⟨_, h, ⟨⟨Z, γ, by rw [(setd_ob _ _ _).1]; exact hi, by rw [(setd_ob _ _ _).1]; exact setd_ok (b := s.b) hs (opnd_ok h3 hs), hγ⟩, by rw [(setd_ob _ _ _).2]; exact hb, by rw [put_defers]; exact hd⟩⟩
    ·cases hs1
   ·have hmk : ∀ (f : FuncId) (ps : List Value) w', a.eval y = .func (.func f) #[] ps.toArray → (execOp a.eval o).run P w' = (callFunc f (c.args.toList.map a.eval ++ ps).toArray).run P w' := by
     intro f ps w' hv
     have : (c.args.map a.eval ++ ps.toArray) = (c.args.toList.map a.eval ++ ps).toArray := by
      apply Array.ext'
      simp
     simp only [execOp, ho, resolve, hc, Deferred.ofValue, hv, pure_bind, invoke, Array.empty_append, this]
    cases y with
    | func f =>
     simp only [step, ho, hc] at hs1
     exact do_call hst hG hGB hm hev (cs := []) hinl hs1 h hg rfl (fun Z γ hs => ⟨by simp, fun w' => by simpa using hmk f [] w' rfl⟩)
    | tmp t =>
     simp only [step, ho, hc] at hs1
     split at hs1
     ·rename_i f cs hf
      split at hs1
      ·rename_i hfb
       exact do_call hst hG hGB hm hev (cs := cs) hinl hs1 h hg rfl (fun Z γ hs => by
        have hv := opnd_lf hf hs
        exact ⟨hv.2.2, fun w' => hmk f _ w' (hv.1.trans (Wv_fn hfb _))⟩)
      ·cases hs1
     ·cases hs1
    | const v =>
     simp only [step, ho, hc] at hs1
     split at hs1
     ·rename_i f cs hf
      split at hs1
      ·rename_i hfb
       exact do_call hst hG hGB hm hev (cs := cs) hinl hs1 h hg rfl (fun Z γ hs => by
        have hv := opnd_lf hf hs
        exact ⟨hv.2.2, fun w' => hmk f _ w' (hv.1.trans (Wv_fn hfb _))⟩)
      ·cases hs1
     ·cases hs1
    | global g => simp only [step, ho, hc, St.opnd] at hs1; cases hs1
  ·cases h
 ·split at h
  ·rename_i rt f s0 xs hiv
   split at h
   ·rename_i s1 out hs1
    split at h
    ·obtain ⟨⟨Z, γ, hi, hs, hγ⟩, hb, hd⟩ := id hg
     unfold invk at hiv
     split at hiv
     ·rename_i c ho
      split at hiv
      ·rename_i r0 name hc
       split at hiv
       ·rename_i W b hsl
        split at hiv
        ·rename_i hcnd
         simp only [Bool.and_eq_true] at hcnd
         obtain ⟨hW, hdst⟩ := hcnd
         have hW := Nat.le_of_ble_eq_true hW
         obtain ⟨T, hT⟩ : ∃ T, W = ifB + T := ⟨W - ifB, (Nat.add_sub_cancel' hW).symm⟩
         subst hT
         rw [Nat.add_sub_cancel_left] at hiv
         have hlen : r0 < s.sl.length := by
          refine Nat.lt_of_not_le fun hle => ?_
          have : s.get r0 = .lf .u := by simp [St.get, List.getD_eq_getElem?_getD, List.getElem?_eq_none hle]
          rw [this] at hsl; cases hsl
         have hv := hs.ok r0
         rw [show s.sl.getD r0 (.lf .u) = .lf (.fn (ifB + T) [b]) from hsl] at hv
         obtain ⟨hv1, _, hv3⟩ := hv
         obtain ⟨gg, hgg⟩ := hv3 b List.mem_cons_self
         have hv1 : a.tmps.getD r0 undef = .iface T (.pointer (some ⟨gg, 0, none⟩)) := by rw [hv1, List.map_cons, List.map_nil, hgg, Wv_if]
         have hdne : ∀ d, o.dst = some d → d ≠ r0 := by
          intro d hd e
          rw [hd, e] at hdst
          simp [dstNot, beq_self'] at hdst
         have key : ∀ (y : Slot) (rv : Value), SlotOK w Z γ s.ob y rv → (∀ args, (callMethod (.iface T (.pointer (some ⟨gg, 0, none⟩))) name args).run P w = (callFunc f (#[rv] ++ args)).run P w) →
           c.args.all (notTmp r0) = true → callOut E (s.set r0 y) o.dst f (.tmp r0 :: c.args.toList) [] = some (s1, out) → out.cps ev inl s1 o.dst (fun s' => K (s'.set r0 (.lf .u))) = some r →
           o.wp P a w (fun a' w' => ∃ s', K s' = some r ∧ Good w0 M Z0 γ0 m s' a' w') Q := by
          intro y rv hy hmeth hargs hco hcp
          have hgd : Good w0 M Z0 γ0 m (s.set r0 y) (a.put (some r0) rv) w := ⟨⟨Z, γ, hi, setd_ok (b := s.b) (d := some r0) hs hy, hγ⟩, hb, by rw [put_defers]; exact hd⟩
          have hF : ∀ s' v w', (fun s' => K (s'.set r0 (.lf .u))) s' = some r → Good w0 M Z0 γ0 m s' ((a.put (some r0) rv).put o.dst v) w' → (fun a' w' => ∃ s', K s' = some r ∧ Good w0 M Z0 γ0 m s' a' w') (a.put o.dst v) w' := by
           intro s' v w' h1 h2
           obtain ⟨⟨Z2, γ2, hi2, hs2, hγ2⟩, hb2, hd2⟩ := h2
           exact ⟨_, h1, ⟨Z2, γ2, hi2, forget_ok hs2 hdne, hγ2⟩, hb2, by rw [put_defers]; exact hd⟩
          refine do_call' hst hG hGB hm hev (cs := []) (a := a.put (some r0) rv) hinl hco hcp hgd rfl hF fun Z' γ' hs' => ⟨by simp, ?_⟩
          have hrt : (a.put (some r0) rv).eval (.tmp r0) = rv := by
           have hl2 : r0 < a.tmps.size := Nat.lt_of_lt_of_le hlen hs.len
           simp [Act.put, Act.eval, Array.getD_eq_getD_getElem?, hl2]
          have hrest : c.args.toList.map (a.put (some r0) rv).eval = c.args.toList.map a.eval := by
           refine List.map_congr_left fun x hx => ?_
           have h1 := Array.all_eq_true.1 hargs
           cases x with
           | tmp t =>
            obtain ⟨q, hq, e⟩ := List.getElem_of_mem hx
            have h2 := h1 q (by simpa using hq)
            rw [show c.args[q]'(by simpa using hq) = .tmp t by simpa using e] at h2
            have hne : t ≠ r0 := fun e => by subst e; simp [notTmp, beq_self'] at h2
            simp [Act.put, Act.eval, Array.getD_eq_getD_getElem?, Array.getElem?_setIfInBounds, Ne.symm hne]
           | _ => rfl
          rw [List.map_cons, hrt, hrest, List.map_nil, List.append_nil]
          have hev2 : a.eval (.tmp r0) = .iface T (.pointer (some ⟨gg, 0, none⟩)) := hv1
          have hex : ((#[a.eval (.tmp r0)] ++ c.args.map a.eval) : Array Value).extract 1 (#[a.eval (.tmp r0)] ++ c.args.map a.eval).size = c.args.map a.eval := by
           apply Array.ext'
           simp [List.take_of_length_le]
          have h0 : (#[a.eval (.tmp r0)] ++ c.args.map a.eval : Array Value)[0]? = some (a.eval (.tmp r0)) := by
           rw [Array.getElem?_append_left (by simp)]
           rfl
          simp only [execOp, ho, resolve, hc, pure_bind, invoke, h0, hex]
          rw [hev2, hmeth]
          congr 2
          apply Array.ext'
          simp
         split at hiv
         ·rename_i x1 x2 f' hfd
          have hok := envOK_meth henv (List.mem_of_find?_eq_some hfd)
          have hnm := List.find?_some hfd
          simp only [Bool.and_eq_true, beqt, beq_iff_eq] at hnm
          obtain ⟨e1, e2⟩ := hnm
          subst e1 e2
          split at hiv
          ·rename_i hargs
           cases hiv
           exact key (.lf (.p b 0)) (.pointer (some ⟨gg, 0, none⟩)) ⟨gg, hgg, rfl⟩ (fun args => run_method hok _ w rfl args) hargs hs1 h
          ·cases hiv
         ·rename_i x1 x2 f' U hfd
          have hok := envOK_meth henv (List.mem_of_find?_eq_some hfd)
          have hnm := List.find?_some hfd
          simp only [Bool.and_eq_true, beqt, beq_iff_eq] at hnm
          obtain ⟨e1, e2⟩ := hnm
          subst e1 e2
          split at hiv
          ·rename_i U' l ag n hl hcell
           split at hiv
           ·rename_i y hy
            split at hiv
            ·rename_i hargs
             cases hiv
             have hct := cell_ok henv hcell
             obtain ⟨g2, cur, h6, h7, h8⟩ := hi.obs b _ hl
             rw [hgg] at h6
             cases h6
             obtain ⟨hn, hsl2⟩ := pick_ok (ob := s.ob) hy h8
             have hcs := cells_at (off := 0) h7
             have hload := run_loadVar (P := P) (w := w) hct ⟨gg, 0, none⟩ (cur.toList.take n) (by rw [List.length_take]; omega) fun j u hu => by
              refine hcs j u ?_
              rw [List.getElem?_take] at hu
              split at hu
              ·simpa using hu
              ·cases hu
             exact key y _ hsl2 (fun args => run_method hok _ w hload args) hargs hs1 h
            ·cases hiv
           ·cases hiv
          ·cases hiv
         ·cases hiv
        ·cases hiv
       ·cases hiv
      ·cases hiv
     ·cases hiv
    ·cases h
   ·cases h
  ·split at h
   ·rename_i b y l hsel
    have h := selK_some h
    obtain ⟨⟨Z, γ, hi, hs, hγ⟩, hb, hd⟩ := hg
    unfold selC at hsel
    split at hsel
    ·rename_i c ho
     split at hsel
     ·rename_i f hc
      split at hsel
      ·rename_i l' hl
       split at hsel
       ·rename_i p x hargs
        split at hsel
        ·rename_i b' y' hp hx
         cases hsel
         obtain ⟨⟨fn, cc, hf1, hf2, hf3⟩, hcall⟩ := hev.1 f l hl
         obtain ⟨g, hg1, hg2⟩ := opnd_lf hp hs
         have hx2 : a.eval x = .string y := by
          have := opnd_lf hx hs
          have : [a.eval x] = [Value.string y] := this
          simpa using this
         have hae : c.args.map a.eval = #[.pointer (some ⟨g, 0, none⟩), .string y] := by
          apply Array.ext'
          rw [Array.toList_map, hargs]
          simp [hg2, hx2]
         have hrun : (execOp a.eval o).run P w = (callFunc f #[.pointer (some ⟨g, 0, none⟩), .string y]).run P w := by
          simp only [execOp, ho, resolve, hc, Deferred.ofValue, Act.eval, pure_bind, invoke, Array.empty_append, Array.append_empty]
          rw [show (c.args.map a.eval) = #[.pointer (some ⟨g, 0, none⟩), .string y] from hae]
         unfold Oper.wp
         rw [hrun]
         have hen : (callFunc f #[.pointer (some ⟨g, 0, none⟩), .string y]).run P w = .ok (.enter f #[.pointer (some ⟨g, 0, none⟩), .string y]) w := by
          have h1 : fn.name ≠ "runtime.NumGoroutine" := by simpa using hf3
          simp [callFunc, hf1, h1, hf2]
         rw [hen, Oper.upon_enter]
         refine Calls.mono (hcall g y w) fun e w' he => ?_
         obtain ⟨rfl, rfl⟩ := he
         refine ⟨_, h, ⟨⟨Z, γ, by rw [(setd_ob _ _ _).1]; exact hi, ?_, hγ⟩, by rw [(setd_ob _ _ _).2]; exact hb, by rw [put_defers]; exact hd⟩⟩
         rw [(setd_ob _ _ _).1]
         refine setd_ok (b := s.b) hs ?_
         cases selF l y with
         | none => exact rfl
         | some off => exact ⟨g, hg1, rfl⟩
        ·cases hsel
       ·cases hsel
      ·cases hsel
     ·cases hsel
    ·cases hsel
   ·split at h
    ·rename_i g e hnil
     obtain ⟨⟨Z, γ, hi, hs, hγ⟩, hb, hd⟩ := hg
     obtain ⟨b, hr, hk⟩ := nilC_run henv hnil hs h
     refine wp_of_run (.inl hr) ?_
     exact ⟨_, hk, ⟨⟨Z, γ, by rw [(setd_ob _ _ _).1]; exact hi, by rw [(setd_ob _ _ _).1]; exact setd_ok (b := s.b) hs (show LfOK w Z γ (.v .bool b) (.bool b) from rfl), hγ⟩, by rw [(setd_ob _ _ _).2]; exact hb, by rw [put_defers]; exact hd⟩⟩
    ·cases h
theorem yielded_ok {ops : Array Oper} {tm : Array Value} {j g : Nat} (hg : (ops[j]?).bind (·.dst) = some g) : yielded ops tm j = (match tm.getD g undef with | .bool b => some b | _ => none) := by
 unfold yielded
 rw [hg]
 simp only [Option.bind_some, Array.getD_eq_getD_getElem?]
 cases tm[g]? with
 | none => rfl
 | some v => cases v <;> rfl
theorem opsK_ok (henv : envOK P E = true) (hinl : E.inl = []) (hst : Stable GB G) (hG : G w0) (hGB : ∀ b, GB b → b < w0.heap.size ∧ ¬ M b) (hm : m ≤ 1000) {R : Type} {ev : Ev E} (hev : EvOK P GB G E ev)
  {inl : FuncId → List Slot → St → (Slot → List (Nat × Ob) → Option R) → Option R} {ops : Array Oper} {K : St → Option R} {r : R} :
  ∀ (l : List Oper) (i : Nat) (s : St) (a : Act) (w : World), l = ops.toList.drop i → i + l.length = ops.size → opsK E ev inl ops l s K = some r → Good w0 M Z0 γ0 m s a w →
   wpOps P ops (fun e a w => e = .normal ∧ ∃ s', K s' = some r ∧ Good w0 M Z0 γ0 m s' a w) (List.range' i l.length) a w
 | [], i, s, a, w, _, _, h, hg => ⟨rfl, s, h, hg⟩
 | o :: l, i, s, a, w, hl, hlen, h, hg => by
  have hoi : ops[i]? = some o := by
   have := congrArg (·[0]?) hl
   simp only [List.getElem?_cons_zero, List.getElem?_drop, Nat.add_zero, Array.getElem?_toList] at this
   exact this.symm
  have hl' : l = ops.toList.drop (i + 1) := by
   have := congrArg List.tail hl
   simpa using this
  have hlen' : i + 1 + l.length = ops.size := by simp only [List.length_cons] at hlen; omega
  have ih : ∀ (s : St) (a : Act) (w : World), opsK E ev inl ops l s K = some r → Good w0 M Z0 γ0 m s a w → wpOps P ops (fun e a w => e = .normal ∧ ∃ s', K s' = some r ∧ Good w0 M Z0 γ0 m s' a w) (List.range' (i + 1) l.length) a w :=
   fun s a w => opsK_ok henv hinl hst hG hGB hm hev l (i + 1) s a w hl' hlen'
  simp only [List.length_cons, List.range'_succ, wpOps, hoi]
  have doit : ∀ s', stepK E ev inl s' o (fun s' => opsK E ev inl ops l s' K) = some r → Good w0 M Z0 γ0 m s' a w → o.wp P a w (wpOps P ops (fun e a w => e = .normal ∧ ∃ s', K s' = some r ∧ Good w0 M Z0 γ0 m s' a w) (List.range' (i + 1) l.length)) (fun e a w => e = .normal ∧ ∃ s', K s' = some r ∧ Good w0 M Z0 γ0 m s' a w) := by
   intro s' h1 h2
   have h3 := stepK_ok henv hinl hst hG hGB hm hev h1 h2 (Q := fun e a w => e = .normal ∧ ∃ s', K s' = some r ∧ Good w0 M Z0 γ0 m s' a w)
   refine Oper.wp_mono ?_ h3
   rintro a' w' ⟨s2, h4, h5⟩
   exact ih s2 a' w' h4 h5
  have skip : ∀ s' v, opsK E ev inl ops l (s'.setd o.dst (.lf .un)) K = some r → Good w0 M Z0 γ0 m s' a w → v = undef → wpOps P ops (fun e a w => e = .normal ∧ ∃ s', K s' = some r ∧ Good w0 M Z0 γ0 m s' a w) (List.range' (i + 1) l.length) (a.put o.dst v) w := by
   rintro s' v h1 ⟨⟨Z, γ, hi, hs, hγ⟩, hb, hd⟩ rfl
   refine ih _ _ _ h1 ⟨⟨Z, γ, by rw [(setd_ob _ _ _).1]; exact hi, by rw [(setd_ob _ _ _).1]; exact setd_ok (b := s'.b) hs rfl, hγ⟩, by rw [(setd_ob _ _ _).2]; exact hb, by rw [put_defers]; exact hd⟩
  simp only [opsK] at h
  cases hgd : o.guard with
  | none =>
   rw [hgd] at h
   have hw : Region.wanted o (yielded ops a.tmps) = true := by simp [Region.wanted, hgd]
   rw [if_pos hw]
   exact .inl (doit s h hg)
  | some jw =>
   obtain ⟨j, want⟩ := jw
   rw [hgd] at h
   dsimp only at h
   split at h
   ·rename_i gt hgt
    have hy := yielded_ok (tm := a.tmps) hgt
    obtain ⟨⟨Z, γ, hi, hs, hγ⟩, hb, hd⟩ := id hg
    have hslot := hs.ok gt
    split at h
    ·rename_i hsl
     rw [show s.sl.getD gt (.lf .u) = .lf .un from hsl] at hslot
     have hv : a.tmps.getD gt undef = undef := hslot
     have hw : Region.wanted o (yielded ops a.tmps) = false := by
      simp only [Region.wanted, hgd, hy, hv]
      rfl
     rw [hw]
     exact skip s _ h hg rfl
    ·rename_i c hsl
     rw [show s.sl.getD gt (.lf .u) = .lf (.v .bool c) from hsl] at hslot
     have hv : ∀ c : Bool, SlotOK w Z γ s.ob (.lf (.v .bool c)) (a.tmps.getD gt undef) → a.tmps.getD gt undef = .bool c := by
      intro c h
      simpa only [SlotOK, LfOK, Ty.Rep, List.cons.injEq, and_true] using h
     have hv := hv c hslot
     have hw : Region.wanted o (yielded ops a.tmps) = (some (show Bool from c) == some want) := by
      simp only [Region.wanted, hgd, hy, hv]
     have hgs : Good w0 M Z0 γ0 m (s.set gt (.lf (.v .bool c))) a w := ⟨⟨Z, γ, hi, setd_same hs hslot, hγ⟩, hb, hd⟩
     cases c with
     | true =>
      cases want with
      | true => rw [if_pos (by rw [hw]; rfl)]; exact .inl (doit _ h hgs)
      | false => rw [if_neg (by rw [hw]; decide)]; exact skip _ _ h hgs rfl
     | false =>
      cases want with
      | true => rw [if_neg (by rw [hw]; decide)]; exact skip _ _ h hgs rfl
      | false => rw [if_pos (by rw [hw]; rfl)]; exact .inl (doit _ h hgs)
    ·cases h
   ·cases h
end
end Go.GV
namespace Go.GV
section
variable {E : Env} {s t s1 : St} {o : Oper}
theorem lf_names {c : Lf} {n : Nat} : c.names n = true ↔ n ∈ c.nms := by
 cases c with
 | o r => simp only [Lf.names, Lf.nms, beqt, List.mem_singleton]; exact eq_comm
 | oh r _ => simp only [Lf.names, Lf.nms, beqt, List.mem_singleton]; exact eq_comm
 | ot r _ _ => simp only [Lf.names, Lf.nms, beqt, List.mem_singleton]; exact eq_comm
 | p r _ => simp only [Lf.names, Lf.nms, beqt, List.mem_singleton]; exact eq_comm
 | fn f cs => simp only [Lf.names, Lf.nms, List.any_eq_true, beqt]; exact ⟨fun ⟨x, h, e⟩ => e ▸ h, fun h => ⟨n, h, rfl⟩⟩
 | _ => simp [Lf.names, Lf.nms]
theorem lfs_names {l : List Lf} {n : Nat} : l.any (Lf.names n) = true ↔ n ∈ l.flatMap Lf.nms := by
 simp [lf_names]
theorem slot_names {x : Slot} {n : Nat} : x.names n = true ↔ n ∈ x.nms := by
 cases x with
 | lf c => exact lf_names
 | ag l => exact lfs_names
 | q l => exact lfs_names
 | tp l => simp [Slot.names, Slot.nms, lf_names]
 | e r i off => simp only [Slot.names, Slot.nms, beqt, List.mem_singleton]; exact eq_comm
theorem slot_names_f {x : Slot} {n : Nat} (h : n ∉ x.nms) : x.names n = false := by
 cases hx : x.names n with
 | false => rfl
 | true => exact absurd (slot_names.1 hx) h
structure Agr (o : Oper) (s t : St) : Prop where
 b : t.b = s.b
 op : ∀ y ∈ o.op.operands.toList, t.opnd y = s.opnd y
theorem Agr.id (h : Agr o s t) : t.id o.dst = s.id o.dst := by unfold St.id; rw [h.b]
theorem sameLen_eq {α β : Type} : ∀ {l : List α} {m : List β}, sameLen l m = true → l.length = m.length
 | [], [], _ => rfl
 | _ :: l, _ :: m, h => by simp only [sameLen] at h; simp [sameLen_eq h]
 | [], _ :: _, h => by cases h
 | _ :: _, [], h => by cases h
theorem del_len {α : Type} (n : Nat) : ∀ l : List (Nat × α), (del l n).length ≤ l.length ∧ ((del l n).length = l.length → del l n = l)
 | [] => ⟨Nat.le_refl _, fun _ => rfl⟩
 | (k, b) :: l => by
  obtain ⟨h1, h2⟩ := del_len n l
  simp only [del]
  split
  ·exact ⟨by simp; omega, fun h => by simp at h; omega⟩
  ·exact ⟨by simp; exact h1, fun h => by rw [h2 (by simpa using h)]⟩
theorem frz_none {r : Nat} (h : ∀ E t xs, look s.ob r ≠ some (.row E t xs)) : s.frz r = s := by
 unfold St.frz
 split
 ·rename_i h1; exact absurd h1 (h _ _ _)
 ·rfl
theorem frz_len (r : Nat) : (s.frz r).ob.length ≤ s.ob.length ∧ ((s.frz r).ob.length = s.ob.length → s.frz r = s ∧ ∀ E t xs, look s.ob r ≠ some (.row E t xs)) := by
 cases h : look s.ob r with
 | none => rw [frz_none (by rw [h]; simp)]; exact ⟨Nat.le_refl _, fun _ => ⟨rfl, by simp⟩⟩
 | some b =>
  cases b with
  | box T l => rw [frz_none (by rw [h]; simp)]; exact ⟨Nat.le_refl _, fun _ => ⟨rfl, by simp⟩⟩
  | row E t xs =>
   obtain ⟨h1, h2⟩ := del_len r s.ob
   have hl : (s.frz r).ob.length = (del s.ob r).length := by unfold St.frz; rw [h]; simp
   refine ⟨by rw [hl]; exact h1, fun e => ?_⟩
   have := h2 (by rw [← hl]; exact e)
   have h3 := look_del s.ob r r
   rw [this, h] at h3
   simp at h3
theorem frzAll_len : ∀ (l : List Lf) (s : St), (s.frzAll l).ob.length ≤ s.ob.length ∧ ((s.frzAll l).ob.length = s.ob.length → s.frzAll l = s ∧ ∀ r ∈ rowNames l, ∀ E t xs, look s.ob r ≠ some (.row E t xs))
 | [], s => ⟨Nat.le_refl _, fun _ => ⟨rfl, by simp [rowNames]⟩⟩
 | c :: l, s => by
  have hr : ∀ r, ((s.frz r).frzAll l).ob.length ≤ s.ob.length ∧ (((s.frz r).frzAll l).ob.length = s.ob.length → (s.frz r).frzAll l = s ∧ ∀ r' ∈ r :: rowNames l, ∀ E t xs, look s.ob r' ≠ some (.row E t xs)) := by
   intro r
   obtain ⟨h1, h2⟩ := frz_len (s := s) r
   obtain ⟨h3, h4⟩ := frzAll_len l (s.frz r)
   refine ⟨Nat.le_trans h3 h1, fun h => ?_⟩
   have e1 : (s.frz r).ob.length = s.ob.length := Nat.le_antisymm h1 (h ▸ h3)
   obtain ⟨h5, h6⟩ := h2 e1
   obtain ⟨h7, h8⟩ := h4 (by rw [h, e1])
   rw [h5] at h7 h8 ⊢
   refine ⟨h7, fun r' hr' => ?_⟩
   rcases List.mem_cons.1 hr' with rfl | hr'
   ·exact h6
   ·exact h8 r' hr'
  cases c <;> first | exact hr _ | exact frzAll_len l s
theorem frzAll_id : ∀ {l : List Lf} {s : St}, (∀ r ∈ rowNames l, ∀ E t xs, look s.ob r ≠ some (.row E t xs)) → s.frzAll l = s
 | [], _, _ => rfl
 | c :: l, s, h => by
  cases c <;> first
   | (simp only [St.frzAll]; rw [frz_none (h _ (by simp [rowNames]))]; exact frzAll_id fun r hr => h r (by simp [rowNames, hr]))
   | exact frzAll_id (l := l) h
theorem frzAll_nil {l : List Lf} (h : rowNames l = []) : s.frzAll l = s := frzAll_id (by rw [h]; simp)
theorem frzAll_same {l : List Lf} (h : s.frzAll l = s) (ht : t.ob = s.ob) : t.frzAll l = t :=
 frzAll_id (by rw [ht]; exact ((frzAll_len l s).2 (by rw [h])).2)
theorem rowAt_congr {ob ob' : List (Nat × Ob)} {e : TypeId} {ty : Ty} {r : Nat} (h : look ob' r = look ob r) : rowAt? ob' e ty r = rowAt? ob e ty r := by unfold rowAt?; rw [h]
theorem list_congr {ob ob' : List (Nat × Ob)} {e : TypeId} {ty : Ty} {c : Lf} (h : ∀ n ∈ c.nms, look ob' n = look ob n) : c.list ob' e ty = c.list ob e ty := by
 cases c with
 | o r => exact rowAt_congr (h r (by simp [Lf.nms]))
 | oh r k => exact congrArg (fun z => Option.bind z fun xs => some (xs.take k.toNat)) (rowAt_congr (h r (by simp [Lf.nms])))
 | ot r k z => exact congrArg (fun y => if Nat.beq z ty.sz = true then Option.bind y fun xs => some (xs.drop k.toNat) else none) (rowAt_congr (h r (by simp [Lf.nms])))
 | v ty x => rfl
 | _ => rfl
theorem len_congr {ob ob' : List (Nat × Ob)} {c : Lf} (h : ∀ n ∈ c.nms, look ob' n = look ob n) : c.len ob' = c.len ob := by
 cases c with
 | o r => simp only [Lf.len]; rw [h r (by simp [Lf.nms])]
 | ot r j z => simp only [Lf.len]; rw [h r (by simp [Lf.nms])]
 | v ty x => cases ty <;> rfl
 | _ => rfl
theorem lfrz_congr {ob ob' : List (Nat × Ob)} {c : Lf} (h : ∀ n ∈ c.nms, look ob' n = look ob n) : c.frz ob' = c.frz ob := by
 cases c with
 | o r => simp only [Lf.frz]; rw [h r (by simp [Lf.nms])]
 | oh r _ => simp only [Lf.frz]; rw [h r (by simp [Lf.nms])]
 | ot r _ _ => simp only [Lf.frz]; rw [h r (by simp [Lf.nms])]
 | _ => rfl
theorem optInt_congr {y : Option Operand} (h : ∀ z ∈ y, t.opnd z = s.opnd z) : optInt t y = optInt s y := by
 cases y with
 | none => rfl
 | some z => simp only [optInt]; rw [h z rfl]
theorem cellsOf_congr : ∀ {l : List Operand}, (∀ y ∈ l, t.opnd y = s.opnd y) → t.cellsOf l = s.cellsOf l
 | [], _ => rfl
 | y :: l, h => by
  simp only [St.cellsOf]
  rw [h y List.mem_cons_self, cellsOf_congr fun z hz => h z (List.mem_cons_of_mem _ hz)]
theorem buildL_congr {fs : Tys} : ∀ {ps : List (Nat × Operand)} {l : List Lf}, (∀ p ∈ ps, t.opnd p.2 = s.opnd p.2) → buildL fs t l ps = buildL fs s l ps
 | [], _, _ => rfl
 | (i, y) :: r, l, h => by
  have ih := fun l => buildL_congr (fs := fs) (ps := r) (l := l) fun p hp => h p (List.mem_cons_of_mem _ hp)
  simp only [buildL, ih]
  rw [h (i, y) List.mem_cons_self]
theorem partsL_congr {ty : Ty} : ∀ {ps : List (Nat × Operand)} {n : Nat}, (∀ p ∈ ps, t.opnd p.2 = s.opnd p.2) → partsL ty t n ps = partsL ty s n ps
 | [], _, _ => rfl
 | (i, y) :: r, n, h => by
  have ih := fun n => partsL_congr (ty := ty) (ps := r) (n := n) fun p hp => h p (List.mem_cons_of_mem _ hp)
  simp only [partsL, ih]
  rw [h (i, y) List.mem_cons_self]
theorem partCells_congr : ∀ {ps : List (Nat × Operand)}, (∀ p ∈ ps, t.opnd p.2 = s.opnd p.2) → partCells t ps = partCells s ps
 | [], _ => rfl
 | (i, y) :: r, h => by
  simp only [partCells]
  rw [h (i, y) List.mem_cons_self, partCells_congr fun p hp => h p (List.mem_cons_of_mem _ hp)]
end
end Go.GV
namespace Go.GV
section
variable {E : Env} {s t s1 : St} {o : Oper}
theorem opNms_mem {y : Operand} {z : Slot} (hy : y ∈ o.op.operands.toList) (hz : s.opnd y = some z) {n : Nat} (hn : n ∈ z.nms) : n ∈ s.opNms o := by
 unfold St.opNms
 rw [List.mem_flatMap]
 exact ⟨y, hy, by rw [hz]; exact hn⟩
def Reads (E : Env) (o : Oper) (s t : St) (out : Out E) : Prop :=
 (∃ g x, out = .go g x s.ob ∧ step E t o = some (t, .go g x t.ob)) ∨ (∃ c x y, out = .br c x y ∧ step E t o = some (t, .br c x y))
variable {out : Out E}
theorem r_move {y : Operand} (ho : o.op = .move y ∨ o.op = .assign y) (ha : Agr o s t) (h : step E s o = some (s, out)) : Reads E o s t out := by
 have h1 : t.opnd y = s.opnd y := ha.op y (by rcases ho with ho | ho <;> simp [ho, Op.operands])
 rcases ho with ho | ho
 all_goals
  simp only [step, ho] at h
  split at h
  ·rename_i z hz
   cases h
   exact .inl ⟨_, _, rfl, by simp only [step, ho, h1, hz]⟩
  ·cases h
theorem r_pick {c y z : Operand} (ho : o.op = .pick c y z) (ha : Agr o s t) (h : step E s o = some (s, out)) : Reads E o s t out := by
 have h1 : t.opnd c = s.opnd c := ha.op c (by simp [ho, Op.operands])
 have h2 : t.opnd y = s.opnd y := ha.op y (by simp [ho, Op.operands])
 have h3 : t.opnd z = s.opnd z := ha.op z (by simp [ho, Op.operands])
 simp only [step, ho] at h
 split at h
 ·rename_i c x1 x2 e1 e2 e3
  cases h
  exact .inr ⟨_, _, _, rfl, by simp only [step, ho, h1, h2, h3, e1, e2, e3]⟩
 ·cases h
theorem r_bin {op : BinOp} {T U : TypeId} {y z : Operand} (ho : o.op = .binOp op T y z U) (ha : Agr o s t) (h : step E s o = some (s, out)) : Reads E o s t out := by
 have h2 : t.opnd y = s.opnd y := ha.op y (by simp [ho, Op.operands])
 have h3 : t.opnd z = s.opnd z := ha.op z (by simp [ho, Op.operands])
 simp only [step, ho] at h
 split at h
 ·rename_i c1 c2 e1 e2
  split at h
  ·rename_i hb
   split at h
   ·rename_i g c hc
    cases h
    exact .inl ⟨_, _, rfl, by simp only [step, ho, h2, h3, e1, e2, hc, if_pos hb]⟩
   ·cases h
  ·cases h
 ·rename_i l m e1 e2
  split at h
  ·rename_i fs hT
   split at h
   ·rename_i hq
    split at h
    ·rename_i xv yv hp1 hp2
     split at h
     ·cases h
      exact .inl ⟨_, _, rfl, by simp only [step, ho, h2, h3, e1, e2, hT, if_pos hq, hp1, hp2]⟩
     ·cases h
      exact .inl ⟨_, _, rfl, by simp only [step, ho, h2, h3, e1, e2, hT, if_pos hq, hp1, hp2]⟩
     ·cases h
    ·cases h
   ·cases h
  ·cases h
 ·cases h
theorem r_un {op : UnOp} {T : TypeId} {y : Operand} (ho : o.op = .unOp op T y) (ha : Agr o s t) (h : step E s o = some (s, out)) : Reads E o s t out := by
 have h2 : t.opnd y = s.opnd y := ha.op y (by simp [ho, Op.operands])
 simp only [step, ho] at h
 split at h
 ·rename_i k n e1
  cases h
  exact .inl ⟨_, _, rfl, by simp only [step, ho, h2, e1]⟩
 ·rename_i b e1
  cases h
  exact .inl ⟨_, _, rfl, by simp only [step, ho, h2, e1]⟩
 ·cases h
theorem r_extract {y : Operand} {i : Nat} (ho : o.op = .extract y i) (ha : Agr o s t) (h : step E s o = some (s, out)) : Reads E o s t out := by
 have h2 : t.opnd y = s.opnd y := ha.op y (by simp [ho, Op.operands])
 simp only [step, ho] at h
 split at h
 ·rename_i l e1
  split at h
  ·rename_i c e2
   cases h
   exact .inl ⟨_, _, rfl, by simp only [step, ho, h2, e1, e2]⟩
  ·cases h
 ·cases h
theorem r_field {T : TypeId} {y : Operand} {f : Nat} (ho : o.op = .field T y f) (ha : Agr o s t) (h : step E s o = some (s, out)) : Reads E o s t out := by
 have h2 : t.opnd y = s.opnd y := ha.op y (by simp [ho, Op.operands])
 simp only [step, ho] at h
 split at h
 ·rename_i l fs e1 e2
  split at h
  ·rename_i ty e3
   split at h
   ·rename_i z e4
    cases h
    exact .inl ⟨_, _, rfl, by simp only [step, ho, h2, e1, e2, e3, e4]⟩
   ·cases h
  ·cases h
 ·cases h
theorem r_build {T : TypeId} {ps : Array (Nat × Operand)} (ho : o.op = .build T ps) (ha : Agr o s t) (h : step E s o = some (s, out)) : Reads E o s t out := by
 have h2 : ∀ p ∈ ps.toList, t.opnd p.2 = s.opnd p.2 := fun p hp => ha.op p.2 (by
  simp only [ho, Op.operands, List.toList_toArray]
  exact List.mem_map.2 ⟨p, hp, rfl⟩)
 simp only [step, ho] at h
 split at h
 ·rename_i fs e1
  split at h
  ·rename_i l e2
   cases h
   exact .inl ⟨_, _, rfl, by simp only [step, ho, buildL_congr h2, e1, e2]⟩
  ·cases h
 ·cases h
theorem r_nilCheck {y : Operand} (ho : o.op = .nilCheck y) (ha : Agr o s t) (h : step E s o = some (s, out)) : Reads E o s t out := by
 have h2 : t.opnd y = s.opnd y := ha.op y (by simp [ho, Op.operands])
 simp only [step, ho] at h
 split at h
 ·rename_i b off e1
  cases h
  exact .inl ⟨_, _, rfl, by simp only [step, ho, h2, e1]⟩
 ·rename_i f cs e1
  split at h
  ·rename_i hf
   cases h
   exact .inl ⟨_, _, rfl, by simp only [step, ho, h2, e1, if_pos hf]⟩
  ·cases h
 ·cases h
theorem r_makeInterface {T : TypeId} {y : Operand} (ho : o.op = .makeInterface T y) (ha : Agr o s t) (h : step E s o = some (s, out)) : Reads E o s t out := by
 have h2 : t.opnd y = s.opnd y := ha.op y (by simp [ho, Op.operands])
 simp only [step, ho] at h
 split at h
 ·rename_i b e1
  split at h
  ·rename_i hT
   cases h
   exact .inl ⟨_, _, rfl, by simp only [step, ho, h2, e1, if_pos hT]⟩
  ·cases h
 ·rename_i z hz e1
  split at h
  ·rename_i l ty e2 e3
   split at h
   ·rename_i e4
    split at h
    ·rename_i v r e5
     split at h
     ·rename_i e6
      cases h
      refine .inl ⟨_, _, rfl, ?_⟩
      simp only [step, ho, h2, e1, e2, e3, if_pos e4, e5, if_pos e6]
     ·cases h
    ·cases h
   ·cases h
  ·cases h
 ·cases h
theorem r_typeAssert {T U : TypeId} {y : Operand} {b : Bool} (ho : o.op = .typeAssert y T U b) (ha : Agr o s t) (h : step E s o = some (s, out)) : Reads E o s t out := by
 have h2 : t.opnd y = s.opnd y := ha.op y (by simp [ho, Op.operands])
 cases b with
 | false => simp only [step, ho] at h; cases h
 | true =>
  simp only [step, ho] at h
  split at h
  ·rename_i V ty v e1
   split at h
   ·rename_i e2
    cases h
    exact .inl ⟨_, _, rfl, by simp only [step, ho, h2, e1, if_pos e2]⟩
   ·cases h
  ·cases h
theorem r_index {T : TypeId} {y z : Operand} (ho : o.op = .index T y z) (ha : Agr o s t) (h : step E s o = some (s, out)) : Reads E o s t out := by
 have h2 : t.opnd y = s.opnd y := ha.op y (by simp [ho, Op.operands])
 have h3 : t.opnd z = s.opnd z := ha.op z (by simp [ho, Op.operands])
 simp only [step, ho] at h
 split at h
 ·rename_i b ci e1 e2
  split at h
  ·rename_i k n e3 e4
   cases h
   exact .inl ⟨_, _, rfl, by simp only [step, ho, h2, h3, e1, e2, e3, e4]⟩
  ·cases h
 ·cases h
theorem r_makeFunc {f : Fn} {l m : Array Operand} (ho : o.op = .makeFunc f l m) (ha : Agr o s t) (h : step E s o = some (s, out)) : Reads E o s t out := by
 cases f with
 | func f =>
  simp only [step, ho] at h
  split at h
  ·rename_i he
   have h2 : t.cellsOf m.toList = s.cellsOf m.toList := cellsOf_congr fun y hy => ha.op y (by simp only [ho, Op.operands, Array.toList_append]; exact List.mem_append_right _ hy)
   split at h
   ·rename_i ls e1
    split at h
    ·rename_i bs e2
     split at h
     ·rename_i hf
      cases h
      exact .inl ⟨_, _, rfl, by simp only [step, ho, h2, e1, e2, if_pos he, if_pos hf]⟩
     ·cases h
    ·cases h
   ·cases h
  ·cases h
 | _ => simp only [step, ho] at h; cases h
theorem r_len {c : Call} (ho : o.op = .call c) (hb : c.callee = .builtin .len) (ha : Agr o s t) (hl : ∀ n ∈ s.opNms o, look t.ob n = look s.ob n) (h : step E s o = some (s, out)) : Reads E o s t out := by
 have hop : o.op.operands = c.args := by simp [ho, Op.operands, Call.operands, hb]
 simp only [step, ho, hb] at h
 split at h
 ·rename_i y e1
  have hy : y ∈ o.op.operands.toList := by rw [hop, e1]; simp
  have h2 : t.opnd y = s.opnd y := ha.op y hy
  split at h
  ·rename_i z e2
   have hc : z.len t.ob = z.len s.ob := len_congr fun n hn => hl n (opNms_mem hy e2 hn)
   split at h
   ·rename_i e3
    split at h
    ·rename_i n e4
     cases h
     exact .inl ⟨_, _, rfl, by simp only [step, ho, hb, h2, hc, e1, e2, e4, if_pos e3]⟩
    ·cases h
   ·cases h
  ·cases h
 ·cases h
theorem r_minmax {c : Call} (ho : o.op = .call c) (hb : c.callee = .builtin .min ∨ c.callee = .builtin .max) (ha : Agr o s t) (h : step E s o = some (s, out)) : Reads E o s t out := by
 rcases hb with hb | hb
 all_goals
  have hop : o.op.operands = c.args := by simp [ho, Op.operands, Call.operands, hb]
  have h2 : t.cellsOf c.args.toList = s.cellsOf c.args.toList := cellsOf_congr fun y hy => ha.op y (by rw [hop]; exact hy)
  simp only [step, ho, hb] at h
  split at h
  ·rename_i l e1
   split at h
   ·rename_i k n e2
    cases h
    exact .inl ⟨_, _, rfl, by simp only [step, ho, hb, h2, e1, e2]⟩
   ·cases h
  ·cases h
theorem r_fieldAddr {T : TypeId} {y : Operand} {f : Nat} (ho : o.op = .fieldAddr T y f) (ha : Agr o s t) (hl : ∀ n ∈ s.opNms o, look t.ob n = look s.ob n) (h : step E s o = some (s, out)) : Reads E o s t out := by
 have hy : y ∈ o.op.operands.toList := by simp [ho, Op.operands]
 have h2 : t.opnd y = s.opnd y := ha.op y hy
 simp only [step, ho] at h
 split at h
 ·rename_i fs e1
  split at h
  ·rename_i ty e2
   split at h
   ·rename_i e3
    split at h
    ·rename_i b off e4
     cases h
     exact .inl ⟨_, _, rfl, by simp only [step, ho, h2, e1, e2, e4, if_pos e3]⟩
    ·rename_i l e4
     cases h
     exact .inl ⟨_, _, rfl, by simp only [step, ho, h2, e1, e2, e4, if_pos e3]⟩
    ·rename_i r i off e4
     have h5 := hl r (opNms_mem hy e4 (by simp [Slot.nms]))
     split at h
     ·rename_i e5
      cases h
      exact .inl ⟨_, _, rfl, by simp only [step, ho, h2, e1, e2, e4, h5, e5, if_pos e3]⟩
     ·cases h
    ·cases h
   ·cases h
  ·cases h
 ·cases h
theorem r_load {T : TypeId} {y : Operand} (ho : o.op = .load T y) (ha : Agr o s t) (hl : ∀ n ∈ s.opNms o, look t.ob n = look s.ob n) (h : step E s o = some (s, out)) : Reads E o s t out := by
 have hy : y ∈ o.op.operands.toList := by simp [ho, Op.operands]
 have h2 : t.opnd y = s.opnd y := ha.op y hy
 simp only [step, ho] at h
 split at h
 ·cases h
 ·rename_i ag n e1
  split at h
  ·rename_i b off e4
   have h5 := hl b (opNms_mem hy e4 (by simp [Slot.nms, Lf.nms]))
   split at h
   ·rename_i U c e5
    split at h
    ·rename_i z e6
     cases h
     exact .inl ⟨_, _, rfl, by simp only [step, ho, h2, e1, e4, h5, e5, e6]⟩
    ·cases h
   ·cases h
  ·rename_i l e4
   split at h
   ·rename_i z e6
    cases h
    exact .inl ⟨_, _, rfl, by simp only [step, ho, h2, e1, e4, e6]⟩
   ·cases h
  ·rename_i r i off e4
   have h5 := hl r (opNms_mem hy e4 (by simp [Slot.nms]))
   split at h
   ·rename_i e ty xs e5
    split at h
    ·rename_i z e6
     cases h
     exact .inl ⟨_, _, rfl, by simp only [step, ho, h2, e1, e4, h5, e5, e6]⟩
    ·cases h
   ·cases h
  ·cases h
theorem r_indexAddr {T : TypeId} {y z : Operand} (ho : o.op = .indexAddr T y z) (ha : Agr o s t) (hl : ∀ n ∈ s.opNms o, look t.ob n = look s.ob n) (h : step E s o = some (s, out)) : Reads E o s t out := by
 have hy : y ∈ o.op.operands.toList := by simp [ho, Op.operands]
 have h2 : t.opnd y = s.opnd y := ha.op y hy
 have h3 : t.opnd z = s.opnd z := ha.op z (by simp [ho, Op.operands])
 simp only [step, ho] at h
 split at h
 ·rename_i e ty c ci e1 e2 e3
  have hc : c.list t.ob e ty = c.list s.ob e ty := list_congr fun n hn => hl n (opNms_mem hy e2 hn)
  split at h
  ·rename_i xs k n e4 e5
   cases c with
   | o r => cases h; exact .inl ⟨_, _, rfl, by simp only [step, ho, h2, h3, e1, e2, e3, e5, hc, e4]⟩
   | ot r j z' => cases h; exact .inl ⟨_, _, rfl, by simp only [step, ho, h2, h3, e1, e2, e3, e5, hc, e4]⟩
   | v ty x => cases h; exact .inl ⟨_, _, rfl, by simp only [step, ho, h2, h3, e1, e2, e3, e5, hc, e4]⟩
   | _ => cases h
  ·cases h
 ·cases h
theorem r_convert {a b : TypeId} {y : Operand} (ho : o.op = .convert a b y) (ha : Agr o s t) (hl : ∀ n ∈ s.opNms o, look t.ob n = look s.ob n) (h : step E s o = some (s, out)) : Reads E o s t out := by
 have hy : y ∈ o.op.operands.toList := by simp [ho, Op.operands]
 have h2 : t.opnd y = s.opnd y := ha.op y hy
 simp only [step, ho] at h
 split at h
 ·rename_i k n ty k' e1 e2 e3
  cases h
  exact .inl ⟨_, _, rfl, by simp only [step, ho, h2, e1, e2, e3]⟩
 ·rename_i c e e1 e2 e3
  have hc : c.list t.ob e (.int .u8) = c.list s.ob e (.int .u8) := list_congr fun n hn => hl n (opNms_mem hy e1 hn)
  split at h
  ·rename_i xs e4
   cases h
   exact .inl ⟨_, _, rfl, by simp only [step, ho, h2, hc, e1, e2, e3, e4]⟩
  ·cases h
 ·rename_i z ty e e1 e2 e3
  cases h
  exact .inl ⟨_, _, rfl, by simp only [step, ho, h2, e1, e2, e3]⟩
 ·rename_i r e1' e2' e1 e2 e3
  split at h
  ·split at h
   ·rename_i e ty xs e4
    have hf : s.frz r = s := congrArg Prod.fst (Option.some.inj h)
    exact absurd e4 (((frz_len r).2 (by rw [hf])).2 _ _ _)
   ·cases h
  ·cases h
 ·cases h
theorem r_slice {T : TypeId} {y : Operand} {lo hi mx : Option Operand} (ho : o.op = .slice T y lo hi mx) (ha : Agr o s t) (hl : ∀ n ∈ s.opNms o, look t.ob n = look s.ob n) (h : step E s o = some (s, out)) : Reads E o s t out := by
 cases mx with
 | some m => simp only [step, ho] at h; cases h
 | none =>
  have hy : y ∈ o.op.operands.toList := by simp [ho, Op.operands]
  have h2 : t.opnd y = s.opnd y := ha.op y hy
  have h3 : optInt t lo = optInt s lo := optInt_congr fun z hz => ha.op z (by cases hz; simp [ho, Op.operands])
  have h4 : optInt t hi = optInt s hi := optInt_congr fun z hz => ha.op z (by cases hz; simp [ho, Op.operands])
  simp only [step, ho] at h
  split at h
  ·rename_i z l h' e1 e2 e3
   split at h
   ·rename_i e4
    cases h
    exact .inl ⟨_, _, rfl, by simp only [step, ho, h2, h3, h4, e1, e2, e3, if_pos e4]⟩
   ·cases h
  ·rename_i c l h' hx e1 e2 e3
   split at h
   ·rename_i e ty e4
    have hc : c.list t.ob e ty = c.list s.ob e ty := list_congr fun n hn => hl n (opNms_mem hy e1 hn)
    split at h
    ·rename_i xs e5
     rcases hp : sliceRow e ty xs l h' with ⟨g, y'⟩
     rw [hp] at h
     cases c with
     | o r =>
      cases l <;> cases h'
      case none.some => cases h; exact .inl ⟨_, _, rfl, by simp only [step, ho, h2, h3, h4, e1, e2, e3, e4, hc, e5, hp]⟩
      case some.none => cases h; exact .inl ⟨_, _, rfl, by simp only [step, ho, h2, h3, h4, e1, e2, e3, e4, hc, e5, hp]⟩
      all_goals
       have hf : s.frz r = s := congrArg Prod.fst (Option.some.inj h)
       exact absurd (rowAt_ok e5) (((frz_len r).2 (by rw [hf])).2 _ _ _)
     | v ty' x =>
      cases ty' with
      | str => exact absurd rfl (hx x)
      | _ => cases h; exact .inl ⟨_, _, rfl, by simp only [step, ho, h2, h3, h4, e1, e2, e3, e4, hc, e5, hp]⟩
     | nl => cases h; exact .inl ⟨_, _, rfl, by simp only [step, ho, h2, h3, h4, e1, e2, e3, e4, hc, e5, hp]⟩
     | _ => cases h
    ·cases h
   ·cases h
  ·cases h
theorem r_lit (hr : E.litO o = true) (ha : Agr o s t) (h : step E s o = some (s, out)) : Reads E o s t out := by
 cases ho : o.op with
 | buildSlice T m ps =>
  have h2 : ∀ p ∈ ps.toList, t.opnd p.2 = s.opnd p.2 := fun p hp => ha.op p.2 (by
   simp only [ho, Op.operands, List.toList_toArray]
   exact List.mem_map.2 ⟨p, hp, rfl⟩)
  simp only [step, ho, if_pos hr] at h
  split at h
  ·rename_i e ty e1
   split at h
   ·rename_i xs e2
    split at h
    ·rename_i e3
     cases h
     exact .inl ⟨_, _, rfl, by simp only [step, ho, if_pos hr, e1, partsL_congr h2, e2, if_pos e3]⟩
    ·cases h
   ·cases h
  ·cases h
 | _ => simp only [Env.litO, ho] at hr; cases hr
theorem r_step (hr' : (rOp o.op || E.litO o) = true) (ha : Agr o s t) (hl : ∀ n ∈ s.opNms o, look t.ob n = look s.ob n) (h : step E s o = some (s, out)) : Reads E o s t out := by
 rcases (Bool.or_eq_true _ _).mp hr' with hr | hr
 case inr => exact r_lit hr ha h
 cases ho : o.op with
 | move y => exact r_move (.inl ho) ha h
 | assign y => exact r_move (.inr ho) ha h
 | pick c y z => exact r_pick ho ha h
 | binOp op T y z U => exact r_bin ho ha h
 | unOp op T y => exact r_un ho ha h
 | convert a b y => exact r_convert ho ha hl h
 | extract y i => exact r_extract ho ha h
 | field T y f => exact r_field ho ha h
 | build T ps => exact r_build ho ha h
 | fieldAddr T y f => exact r_fieldAddr ho ha hl h
 | load T y => exact r_load ho ha hl h
 | nilCheck y => exact r_nilCheck ho ha h
 | indexAddr T y z => exact r_indexAddr ho ha hl h
 | index T y z => exact r_index ho ha h
 | slice T y lo hi mx => exact r_slice ho ha hl h
 | makeFunc f l m => exact r_makeFunc ho ha h
 | makeInterface T y => exact r_makeInterface ho ha h
 | typeAssert y T U b => exact r_typeAssert ho ha h
 | call c =>
  rw [ho] at hr
  cases hb : c.callee with
  | builtin b =>
   simp only [rOp, hb] at hr
   cases b <;> first
    | (cases hr; done)
    | exact r_len ho hb ha hl h
    | exact r_minmax ho (.inl hb) ha h
    | exact r_minmax ho (.inr hb) ha h
  | _ => simp only [rOp, hb] at hr; cases hr
 | _ => rw [ho] at hr; cases hr
end
end Go.GV
namespace Go.GV
section
variable {E : Env} {s t s1 : St} {o : Oper} {out : Out E}
def Writes (E : Env) (o : Oper) (s t : St) (out : Out E) : Prop :=
 ∃ g x ob, out = .go g x ob ∧ step E t o = some (t, .go g x ob) ∧ ∀ n, n ∉ s.wrNms o → n ≠ s.id o.dst → look ob n = look s.ob n
theorem w_alloc {T : TypeId} (ho : o.op = .alloc T) (ha : Agr o s t) (hob : t.ob = s.ob) (hf : t.fresh (s.id o.dst) = s.fresh (s.id o.dst)) (h : step E s o = some (s, out)) : Writes E o s t out := by
 have hid := ha.id
 simp only [step, ho] at h
 split at h
 ·rename_i ty e1
  split at h
  ·rename_i e2
   cases h
   exact ⟨_, _, _, rfl, by simp only [step, ho, e1, hid, hf, hob, if_pos e2], fun n _ hn => by rw [look_put, if_neg (Ne.symm hn)]⟩
  ·cases h
 ·rename_i e1
  split at h
  ·rename_i e2
   cases h
   exact ⟨_, _, _, rfl, by simp only [step, ho, e1, hid, hf, hob, if_pos e2], fun n _ hn => by rw [look_put, if_neg (Ne.symm hn)]⟩
  ·cases h
theorem w_box {T : TypeId} {y : Operand} (ho : o.op = .box T y) (ha : Agr o s t) (hob : t.ob = s.ob) (hf : t.fresh (s.id o.dst) = s.fresh (s.id o.dst)) (h : step E s o = some (s, out)) : Writes E o s t out := by
 have hid := ha.id
 have h2 : t.opnd y = s.opnd y := ha.op y (by simp [ho, Op.operands])
 simp only [step, ho] at h
 split at h
 ·rename_i z e1
  split at h
  ·rename_i c e2
   split at h
   ·rename_i ag n e3
    split at h
    ·rename_i e4
     cases h
     exact ⟨_, _, _, rfl, by simp only [step, ho, h2, e1, e2, e3, hid, hf, hob, if_pos e4], fun n _ hn => by rw [look_put, if_neg (Ne.symm hn)]⟩
    ·cases h
   ·cases h
  ·cases h
 ·cases h
theorem w_store {T : TypeId} {y z : Operand} (ho : o.op = .store T y z) (ha : Agr o s t) (hob : t.ob = s.ob) (h : step E s o = some (s, out)) : Writes E o s t out := by
 have hy : y ∈ o.op.operands.toList := by simp [ho, Op.operands]
 have h2 : t.opnd y = s.opnd y := ha.op y hy
 have h3 : t.opnd z = s.opnd z := ha.op z (by simp [ho, Op.operands])
 have hwn : s.wrNms o = s.opNms o := by simp only [St.wrNms, ho]
 simp only [Writes, hwn]
 simp only [step, ho] at h
 split at h
 ·cases h
 ·rename_i ag n e1
  split at h
  ·rename_i b off z' e2 e3
   split at h
   ·rename_i U c l e4 e5
    split at h
    ·rename_i e6
     split at h
     ·rename_i c' e7
      cases h
      refine ⟨_, _, _, rfl, by simp only [step, ho, h2, h3, e1, e2, e3, e4, e5, e7, hob, if_pos e6], fun n hn _ => ?_⟩
      rw [look_put, if_neg]
      rintro rfl
      exact hn (opNms_mem hy e2 (by simp [Slot.nms, Lf.nms]))
     ·cases h
    ·cases h
   ·cases h
  ·rename_i r i off z' e2 e3
   split at h
   ·rename_i e ty xs l e4 e5
    split at h
    ·rename_i e6
     split at h
     ·rename_i c' e7
      split at h
      ·rename_i w r' e8
       cases h
       refine ⟨_, _, _, rfl, by simp only [step, ho, h2, h3, e1, e2, e3, e4, e5, e7, e8, hob, if_pos e6], fun n hn _ => ?_⟩
       rw [look_put, if_neg]
       rintro rfl
       exact hn (opNms_mem hy e2 (by simp [Slot.nms]))
      ·cases h
     ·cases h
    ·cases h
   ·cases h
  ·cases h
theorem w_make {T : TypeId} {y z : Operand} (ho : o.op = .makeSlice T y z) (ha : Agr o s t) (hob : t.ob = s.ob) (hf : t.fresh (s.id o.dst) = s.fresh (s.id o.dst)) (h : step E s o = some (s, out)) : Writes E o s t out := by
 have hid := ha.id
 have h2 : t.opnd y = s.opnd y := ha.op y (by simp [ho, Op.operands])
 have h3 : t.opnd z = s.opnd z := ha.op z (by simp [ho, Op.operands])
 simp only [step, ho] at h
 split at h
 ·rename_i e ty n c e1 e2 e3
  split at h
  ·rename_i e4
   cases h
   exact ⟨_, _, _, rfl, by simp only [step, ho, h2, h3, e1, e2, e3, hid, hf, hob, if_pos e4], fun n _ hn => by rw [look_put, if_neg (Ne.symm hn)]⟩
  ·cases h
 ·cases h
theorem w_slice {T : TypeId} {m : Nat} {ps : Array (Nat × Operand)} (hnl : E.litO o = false) (ho : o.op = .buildSlice T m ps) (ha : Agr o s t) (hob : t.ob = s.ob) (hf : t.fresh (s.id o.dst) = s.fresh (s.id o.dst)) (h : step E s o = some (s, out)) : Writes E o s t out := by
 have hid := ha.id
 have h2 : ∀ p ∈ ps.toList, t.opnd p.2 = s.opnd p.2 := fun p hp => ha.op p.2 (by
  simp only [ho, Op.operands, List.toList_toArray]
  exact List.mem_map.2 ⟨p, hp, rfl⟩)
 have hnl' : ¬ E.litO o = true := by rw [hnl]; decide
 simp only [step, ho, if_neg hnl'] at h
 split at h
 ·rename_i e ty e1
  split at h
  ·rename_i xs e2
   split at h
   ·rename_i e3
    have hfz : s.frzAll (partCells s ps.toList) = s := congrArg Prod.fst (Option.some.inj h)
    rw [hfz] at h e2 e3
    have ht : t.frzAll (partCells t ps.toList) = t := by rw [partCells_congr h2]; exact frzAll_same hfz hob
    cases h
    exact ⟨_, _, _, rfl, by simp only [step, ho, if_neg hnl', e1, ht, partsL_congr h2, e2, hid, hf, hob, if_pos e3], fun n _ hn => by rw [look_put, if_neg (Ne.symm hn)]⟩
   ·cases h
  ·cases h
 ·cases h
theorem w_append {c : Call} (ho : o.op = .call c) (hb : c.callee = .builtin .append) (ha : Agr o s t) (hob : t.ob = s.ob) (hf : t.fresh (s.id o.dst) = s.fresh (s.id o.dst)) (h : step E s o = some (s, out)) : Writes E o s t out := by
 have hid := ha.id
 have hop : o.op.operands = c.args := by simp [ho, Op.operands, Call.operands, hb]
 simp only [step, ho, hb, appd] at h
 split at h
 ·rename_i y z T U e1 e2
  have hy : y ∈ o.op.operands.toList := by rw [hop, e1]; simp
  have h2 : t.opnd y = s.opnd y := ha.op y hy
  have h3 : t.opnd z = s.opnd z := ha.op z (by rw [hop, e1]; simp)
  split at h
  ·rename_i e ty a b e3 e4 e5
   split at h
   ·rename_i xs e6
    split at h
    ·rename_i ys e7
     cases a with
     | nl =>
      dsimp only at h
      split at h
      ·rename_i e8
       cases h
       exact ⟨_, _, _, rfl, by simp only [step, ho, hb, appd, h2, h3, e1, e2, e3, e4, e5, e6, e7, hid, hf, hob, if_pos e8], fun n _ hn => by rw [look_put, if_neg (Ne.symm hn)]⟩
      ·cases h
     | o r =>
      dsimp only at h
      split at h
      ·rename_i e8
       cases h
       refine ⟨_, _, _, rfl, by simp only [step, ho, hb, appd, h2, h3, e1, e2, e3, e4, e5, e6, e7, hid, hf, hob, if_pos e8], fun n hn hn2 => ?_⟩
       rw [look_put, if_neg (Ne.symm hn2), look_del, if_neg]
       rintro rfl
       exact hn (by simp [St.wrNms, ho, hb, e1, e4, Slot.nms, Lf.nms])
      ·cases h
     | oh r k =>
      dsimp only at h
      split at h
      ·rename_i e8
       cases h
       refine ⟨_, _, _, rfl, by simp only [step, ho, hb, appd, h2, h3, e1, e2, e3, e4, e5, e6, e7, hid, hf, hob, if_pos e8], fun n hn hn2 => ?_⟩
       rw [look_put, if_neg (Ne.symm hn2), look_del, if_neg]
       rintro rfl
       exact hn (by simp [St.wrNms, ho, hb, e1, e4, Slot.nms, Lf.nms])
      ·cases h
     | _ => cases h
    ·cases h
   ·cases h
  ·cases h
 ·cases h
theorem w_clear {c : Call} (ho : o.op = .call c) (hb : c.callee = .builtin .clear) (ha : Agr o s t) (hob : t.ob = s.ob) (h : step E s o = some (s, out)) : Writes E o s t out := by
 have hop : o.op.operands = c.args := by simp [ho, Op.operands, Call.operands, hb]
 have hwn : s.wrNms o = s.opNms o := by simp only [St.wrNms, ho, hb]
 simp only [Writes, hwn]
 simp only [step, ho, hb] at h
 split at h
 ·rename_i y T e1 e2
  have hy : y ∈ o.op.operands.toList := by rw [hop, e1]; simp
  have h2 : t.opnd y = s.opnd y := ha.op y hy
  split at h
  ·rename_i e ty r l z e3 e4
   split at h
   ·rename_i e5
    split at h
    ·rename_i xs e6
     cases h
     refine ⟨_, _, _, rfl, by simp only [step, ho, hb, h2, e1, e2, e3, e4, e6, hob, if_pos e5], fun n hn _ => ?_⟩
     rw [look_put, if_neg]
     rintro rfl
     exact hn (opNms_mem hy e4 (by simp [Slot.nms, Lf.nms]))
    ·cases h
   ·cases h
  ·cases h
 ·cases h
theorem w_step {g : List Bool} {x : Slot} {ob : List (Nat × Ob)} (hr' : (rOp o.op || E.litO o) = false) (ha : Agr o s t) (hob : t.ob = s.ob) (hf : t.fresh (s.id o.dst) = s.fresh (s.id o.dst)) (hinl : E.inl = []) (h : step E s o = some (s, .go g x ob)) : Writes E o s t (.go g x ob : Out E) := by
 obtain ⟨hr, hnl⟩ := Bool.or_eq_false_iff.1 hr'
 cases ho : o.op with
 | alloc T => exact w_alloc ho ha hob hf h
 | box T y => exact w_box ho ha hob hf h
 | store T y z => exact w_store ho ha hob h
 | makeSlice T y z => exact w_make ho ha hob hf h
 | buildSlice T m ps => exact w_slice hnl ho ha hob hf h
 | call c =>
  cases hb : c.callee with
  | builtin b =>
   rw [ho] at hr
   simp only [rOp, hb] at hr
   cases b <;> first
    | (cases hr; done)
    | exact w_append ho hb ha hob hf h
    | exact w_clear ho hb ha hob h
    | (simp only [step, ho, hb] at h; cases h; done)
  | value y =>
   exfalso
   cases y with
   | func f =>
    simp only [step, ho, hb] at h
    obtain ⟨_, _, _, _, e⟩ := callOut_go hinl h
    rcases e with e | e <;> cases e
   | global g => simp only [step, ho, hb, St.opnd] at h; cases h
   | tmp i =>
    simp only [step, ho, hb] at h
    split at h
    ·split at h
     ·obtain ⟨_, _, _, _, e⟩ := callOut_go hinl h
      rcases e with e | e <;> cases e
     ·cases h
    ·cases h
   | const v =>
    simp only [step, ho, hb] at h
    split at h
    ·split at h
     ·obtain ⟨_, _, _, _, e⟩ := callOut_go hinl h
      rcases e with e | e <;> cases e
     ·cases h
    ·cases h
  | invoke r m => simp only [step, ho, hb] at h; cases h
 | _ => rw [ho] at hr; first | (cases hr; done) | (simp only [step, ho] at h; cases h; done)
end
end Go.GV
namespace Go.GV
section
variable {E : Env} {s t s1 s2 : St} {o : Oper} {out : Out E} {D : FnD}
mutual
theorem mk_keys : ∀ {s : Sh} {x : s.T.D} {ns : List Nat} {c : List Lf} {ob : List (Nat × Ob)} {rest : List Nat}, s.mk ns x = some (c, ob, rest) → ns = ob.map (·.1) ++ rest ∧ ob.length = s.cnt
 | .val t, x, ns, c, ob, rest, h => by simp only [Sh.mk] at h; cases h; exact ⟨rfl, rfl⟩
 | .own e t, x, [], c, ob, rest, h => by simp [Sh.mk] at h
 | .own e t, x, r :: m, c, ob, rest, h => by simp only [Sh.mk] at h; cases h; exact ⟨rfl, rfl⟩
 | .mv e t, x, [], c, ob, rest, h => by simp [Sh.mk] at h
 | .mv e t, x, r :: m, c, ob, rest, h => by simp only [Sh.mk] at h; cases h; exact ⟨rfl, rfl⟩
 | .box T sh, x, [], c, ob, rest, h => by simp [Sh.mk] at h
 | .box T sh, x, b :: m, c, ob, rest, h => by
  simp only [Sh.mk] at h
  split at h
  ·rename_i c1 ob1 m1 h1
   cases h
   obtain ⟨h2, h3⟩ := mks_keys h1
   exact ⟨by simp [h2], by simp [h3, Sh.cnt]⟩
  ·cases h
 | .fn f sh, x, ns, c, ob, rest, h => by
  simp only [Sh.mk] at h
  split at h
  ·rename_i c1 ob1 m1 h1
   split at h1
   ·cases h
    exact mks_keys (s := sh) h1
   ·cases h1
  ·cases h
 | .rcd sh, x, ns, c, ob, rest, h => by
  have h0 : (if sh.flat = true then sh.mk ns x else none) = some (c, ob, rest) := h
  by_cases hf : sh.flat = true
  ·rw [if_pos hf] at h0
   exact mks_keys (s := sh) h0
  ·rw [if_neg hf] at h0
   cases h0
theorem mks_keys : ∀ {s : Shs} {x : s.T.D} {ns : List Nat} {c : List Lf} {ob : List (Nat × Ob)} {rest : List Nat}, s.mk ns x = some (c, ob, rest) → ns = ob.map (·.1) ++ rest ∧ ob.length = s.cnt
 | .nil, x, ns, c, ob, rest, h => by simp only [Shs.mk] at h; cases h; exact ⟨rfl, rfl⟩
 | .cons s l, x, ns, c, ob, rest, h => by
  simp only [Shs.mk] at h
  split at h
  ·rename_i c1 ob1 m1 h1
   split at h
   ·rename_i c2 ob2 m2 h2
    cases h
    obtain ⟨h3, h4⟩ := mk_keys h1
    obtain ⟨h5, h6⟩ := mks_keys h2
    exact ⟨by rw [h3, h5]; simp, by simp [h4, h6, Shs.cnt]⟩
   ·cases h
  ·cases h
end
theorem mkA_keys : ∀ {s : Shs} {x : s.T.D} {ns : List Nat} {c : List (Bool × List Lf)} {ob : List (Nat × Ob)} {rest : List Nat}, s.mkA ns x = some (c, ob, rest) → ns = ob.map (·.1) ++ rest ∧ ob.length = s.cnt
 | .nil, x, ns, c, ob, rest, h => by simp only [Shs.mkA] at h; cases h; exact ⟨rfl, rfl⟩
 | .cons s l, x, ns, c, ob, rest, h => by
  simp only [Shs.mkA] at h
  split at h
  ·rename_i c1 ob1 m1 h1
   split at h
   ·rename_i c2 ob2 m2 h2
    cases h
    obtain ⟨h3, h4⟩ := mk_keys h1
    obtain ⟨h5, h6⟩ := mkA_keys h2
    exact ⟨by rw [h3, h5]; simp, by simp [h4, h6, Shs.cnt]⟩
   ·cases h
  ·cases h
theorem map_congr_lf {f g : Lf → Lf} {l : List Lf} (h : ∀ c ∈ l, f c = g c) : l.map f = l.map g := List.map_congr_left h
theorem cnt_cons {s : Sh} {l : Shs} (h : (Shs.cons s l).cnt = 0) : s.cnt = 0 ∧ l.cnt = 0 := by simp only [Shs.cnt] at h; omega
mutual
theorem take_congr {ob ob' : List (Nat × Ob)} : ∀ {s : Sh} {l : List Lf}, s.cnt = 0 → (∀ c ∈ l, ∀ n ∈ c.nms, look ob' n = look ob n) → s.take ob' l = s.take ob l ∧ (∀ x ns, s.take ob l = some (x, ns) → ns = [])
 | .val t, l, _, h => by
  have : l.map (Lf.frz ob') = l.map (Lf.frz ob) := map_congr_lf fun c hc => lfrz_congr (h c hc)
  refine ⟨by simp only [Sh.take, this], fun x ns hx => ?_⟩
  simp only [Sh.take] at hx
  split at hx <;> cases hx
  rfl
 | .own _ _, _, h, _ => by cases h
 | .mv _ _, _, h, _ => by cases h
 | .box _ _, _, h, _ => by simp [Sh.cnt] at h
 | .fn f sh, l, hc, h => by
  simp only [Sh.take]
  split
  ·rename_i f' cs
   generalize Nat.beq f f' = b
   cases b with
   | true =>
    have hh : ∀ c ∈ cs.map (fun b => Lf.p b 0), ∀ n ∈ c.nms, look ob' n = look ob n := by
     intro c hc2 n hn
     obtain ⟨b, hb, rfl⟩ := List.mem_map.1 hc2
     simp only [Lf.nms, List.mem_singleton] at hn
     subst hn
     exact h _ List.mem_cons_self n hb
    exact takes_congr (s := sh) hc hh
   | false => exact ⟨rfl, fun _ _ hx => by cases hx⟩
  ·exact ⟨rfl, fun _ _ hx => by cases hx⟩
 | .rcd sh, l, hc, h => by
  by_cases hf : sh.flat = true
  ·have e : ∀ ob, Sh.take ob (.rcd sh) l = sh.take ob l := fun ob => if_pos hf
   rw [e, e]
   exact takes_congr (s := sh) hc h
  ·have e : ∀ ob, Sh.take ob (.rcd sh) l = none := fun ob => if_neg hf
   rw [e, e]
   exact ⟨rfl, fun _ _ hx => by cases hx⟩
theorem takes_congr {ob ob' : List (Nat × Ob)} : ∀ {s : Shs} {l : List Lf}, s.cnt = 0 → (∀ c ∈ l, ∀ n ∈ c.nms, look ob' n = look ob n) → s.take ob' l = s.take ob l ∧ (∀ x ns, s.take ob l = some (x, ns) → ns = [])
 | .nil, l, _, _ => by
  refine ⟨rfl, fun x ns hx => ?_⟩
  simp only [Shs.take] at hx
  split at hx <;> cases hx
  rfl
 | .cons s l, c, hc, h => by
  obtain ⟨h1, h2⟩ := cnt_cons hc
  obtain ⟨h3, h4⟩ := take_congr (s := s) (l := c.take s.w) h1 fun c hc => h c (List.mem_of_mem_take hc)
  obtain ⟨h5, h6⟩ := takes_congr (s := l) (l := c.drop s.w) h2 fun c hc => h c (List.mem_of_mem_drop hc)
  refine ⟨by simp only [Shs.take, h3, h5], fun x ns hx => ?_⟩
  simp only [Shs.take] at hx
  split at hx
  ·rename_i x1 a1 e1
   split at hx
   ·rename_i y b1 e2
    cases hx
    rw [h4 _ _ e1, h6 _ _ e2]
    rfl
   ·cases hx
  ·cases hx
end
theorem cells_nms {x : Slot} {l : List Lf} (h : x.cells = some l) {c : Lf} (hc : c ∈ l) {n : Nat} (hn : n ∈ c.nms) : n ∈ x.nms := by
 cases x with
 | lf d =>
  simp only [Slot.cells] at h
  split at h
  ·cases h
   simp only [List.mem_singleton] at hc
   subst hc
   exact hn
  ·cases h
 | ag m =>
  simp only [Slot.cells] at h
  split at h
  ·cases h
   exact List.mem_flatMap.2 ⟨c, hc, hn⟩
  ·cases h
 | _ => cases h
theorem takeA_congr {ob ob' : List (Nat × Ob)} : ∀ {s : Shs} {l : List Slot}, s.cnt = 0 → (∀ c ∈ l, ∀ n ∈ c.nms, look ob' n = look ob n) → s.takeA ob' l = s.takeA ob l ∧ (∀ x ns, s.takeA ob l = some (x, ns) → ns = [])
 | .nil, l, _, _ => by
  refine ⟨rfl, fun x ns hx => ?_⟩
  simp only [Shs.takeA] at hx
  split at hx <;> cases hx
  rfl
 | .cons s l, [], _, _ => ⟨rfl, fun x ns hx => by simp [Shs.takeA] at hx⟩
 | .cons s l, c :: r, hc, h => by
  obtain ⟨h1, h2⟩ := cnt_cons hc
  obtain ⟨h5, h6⟩ := takeA_congr (s := l) (l := r) h2 fun c hc => h c (List.mem_cons_of_mem _ hc)
  cases hcl : c.cells with
  | none => simp [Shs.takeA, hcl]
  | some cl =>
   obtain ⟨h3, h4⟩ := take_congr (s := s) (l := cl) h1 fun d hd n hn => h c List.mem_cons_self n (cells_nms hcl hd hn)
   simp only [Shs.takeA, hcl, h3, h5]
   refine ⟨trivial, fun x ns hx => ?_⟩
   split at hx
   ·split at hx
    ·rename_i x1 a1 e1
     split at hx
     ·rename_i y b1 e2
      cases hx
      rw [h4 _ _ e1, h6 _ _ e2]
      rfl
     ·cases hx
    ·cases hx
   ·cases hx
mutual
theorem vals_congr {ob ob' : List (Nat × Ob)} : ∀ {s : Sh} {l : List Lf}, s.cnt = 0 → s.vals ob' l = s.vals ob l
 | .val t, l, _ => rfl
 | .own _ _, _, h => by cases h
 | .mv _ _, _, h => by cases h
 | .box _ _, _, h => by simp [Sh.cnt] at h
 | .fn f sh, l, hc => by
  simp only [Sh.vals]
  split
  ·exact valss_congr (s := sh) hc
  ·rfl
 | .rcd sh, l, hc => valss_congr (s := sh) hc
theorem valss_congr {ob ob' : List (Nat × Ob)} : ∀ {s : Shs} {l : List Lf}, s.cnt = 0 → s.vals ob' l = s.vals ob l
 | .nil, l, _ => rfl
 | .cons s l, c, hc => by
  obtain ⟨h1, h2⟩ := cnt_cons hc
  simp only [Shs.vals, vals_congr h1 (ob := ob) (ob' := ob'), valss_congr h2 (ob := ob) (ob' := ob')]
end
theorem valsA_congr {ob ob' : List (Nat × Ob)} : ∀ {s : Shs} {l : List Slot}, s.cnt = 0 → s.valsA ob' l = s.valsA ob l
 | .nil, l, _ => rfl
 | .cons s l, [], _ => rfl
 | .cons s l, c :: r, hc => by
  obtain ⟨h1, h2⟩ := cnt_cons hc
  simp only [Shs.valsA, vals_congr h1 (ob := ob) (ob' := ob'), valsA_congr h2 (ob := ob) (ob' := ob')]
theorem fits_congr {f : FuncId} {as : List Slot} : ∀ {l : List (Nat × FnD)}, (∀ x ∈ l, x.2.fid = f → x.2.par.takeA t.ob as = x.2.par.takeA s.ob as) → fits t f as l = fits s f as l
 | [], _ => rfl
 | (k, D) :: l, h => by
  have ih := fits_congr (l := l) fun x hx => h x (List.mem_cons_of_mem _ hx)
  simp only [fits, ih]
  by_cases hf : D.fid = f
  ·rw [h (k, D) List.mem_cons_self hf]
  ·have : Nat.beq D.fid f = false := by
    cases hb : Nat.beq D.fid f with
    | false => rfl
    | true => exact absurd (beqt.1 hb) hf
   simp [this]
structure CD (D : FnD) (s : St) (d : Option Nat) (as : List Slot) (s2 : St) (x : D.par.T.D) (k : (D.res.T.app D.par.inout.T).D → Option (Slot × List (Nat × Ob))) (ns : List Nat) : Prop where
 tk : D.par.takeA s.ob as = some (x, ns)
 nd : nodupB (ns ++ dedup [] (rowNames (D.par.valsA s.ob as))) = true
 st : s2 = s.withOb (delAll s.ob ns)
 ok : (nodupB (renew (D.par.keep ns) D.nst) && renewOK s2 (D.par.keep ns) D.nst && ((!(D.res.vr || D.par.inout.vr)) || isNil (rowNames (D.par.valsA s.ob as)))) = true
 k : k = fun r => backAny D s2 (s.id d) (renew (D.par.keep ns) D.nst) r
theorem callD_inv {d : Option Nat} {xs : List Operand} {as0 caps : List Slot} {x : D.par.T.D} {k : (D.res.T.app D.par.inout.T).D → Option (Slot × List (Nat × Ob))}
  (hf : (isNil (rowNames (D.par.valsA s.ob (as0 ++ caps))) || !(D.res.vr || D.par.inout.vr)) = true) (has : s.cellsOf xs = some as0) (h : callD D s d xs as0 caps = some (s2, x, k)) : ∃ ns, CD D s d (as0 ++ caps) s2 x k ns := by
 unfold callD at h
 have hs : (if (D.res.vr || D.par.inout.vr) = true then s.frzAll (D.par.valsA s.ob (as0 ++ caps)) else s) = s := by
  simp only [Bool.or_eq_true, Bool.not_eq_true'] at hf
  split
  ·rename_i hr
   rcases hf with hf | hf
   ·exact frzAll_nil (isNil_eq hf)
   ·rw [hr] at hf; cases hf
  ·rfl
 simp only [hs, has] at h
 split at h
 ·cases h
 ·rename_i x' ns hta
  split at h
  ·rename_i hnd
   split at h
   ·rename_i hok
    cases h
    exact ⟨ns, hta, hnd, rfl, hok, rfl⟩
   ·cases h
  ·cases h
theorem callD_mk {d : Option Nat} {xs : List Operand} {as0 caps : List Slot} {x : D.par.T.D} {k : (D.res.T.app D.par.inout.T).D → Option (Slot × List (Nat × Ob))} {ns : List Nat}
  (hf : (isNil (rowNames (D.par.valsA s.ob (as0 ++ caps))) || !(D.res.vr || D.par.inout.vr)) = true) (has : s.cellsOf xs = some as0) (h : CD D s d (as0 ++ caps) s2 x k ns) : callD D s d xs as0 caps = some (s2, x, k) := by
 obtain ⟨h1, h2, h3, h4, h5⟩ := h
 unfold callD
 have hs : (if (D.res.vr || D.par.inout.vr) = true then s.frzAll (D.par.valsA s.ob (as0 ++ caps)) else s) = s := by
  simp only [Bool.or_eq_true, Bool.not_eq_true'] at hf
  split
  ·rename_i hr
   rcases hf with hf | hf
   ·exact frzAll_nil (isNil_eq hf)
   ·rw [hr] at hf; cases hf
  ·rfl
 subst h3
 subst h5
 simp only [hs, has, h1, h2, h4, if_true]
theorem callOut_inv {d : Option Nat} {f : FuncId} {xs : List Operand} {caps : List Slot} (hinl : E.inl = []) (h : callOut E s d f xs caps = some (s1, out)) :
  ∃ as0 key D x k, ∃ (hD : look E.fn key = some D), s.cellsOf xs = some as0 ∧ fits s f (as0 ++ caps) E.fn = some key ∧ D.fid = f ∧ callD D s d xs as0 caps = some (s1, x, k) ∧
   out = (if D.opt = true then .callN key (cast (by rw [Env.argT, hD]) x) (fun r => k (cast (by rw [Env.resT, hD]) r)) (E.resT key).optQ else .call key (cast (by rw [Env.argT, hD]) x) fun r => k (cast (by rw [Env.resT, hD]) r)) := by
 unfold callOut at h
 split at h
 ·cases h
 ·rename_i as0 has
  rw [hinl] at h
  simp only [look] at h
  split at h
  ·cases h
  ·rename_i key hfit
   split at h
   ·cases h
   ·rename_i D hD
    split at h
    ·rename_i hf
     split at h
     ·rename_i s2 x k hc
      cases h
      exact ⟨as0, key, D, x, k, hD, has, hfit, beqt.1 hf, hc, rfl⟩
     ·cases h
    ·cases h
theorem callOut_mk {d : Option Nat} {f : FuncId} {xs : List Operand} {caps : List Slot} (hinl : E.inl = []) {as0 : List Slot} {key : Nat} {x : D.par.T.D} {k : (D.res.T.app D.par.inout.T).D → Option (Slot × List (Nat × Ob))} (hD : look E.fn key = some D)
  (has : s.cellsOf xs = some as0) (hfit : fits s f (as0 ++ caps) E.fn = some key) (hf : D.fid = f) (hc : callD D s d xs as0 caps = some (s1, x, k)) :
  callOut E s d f xs caps = some (s1, if D.opt = true then .callN key (cast (by rw [Env.argT, hD]) x) (fun r => k (cast (by rw [Env.resT, hD]) r)) (E.resT key).optQ else .call key (cast (by rw [Env.argT, hD]) x) fun r => k (cast (by rw [Env.resT, hD]) r)) := by
 unfold callOut
 rw [has]
 simp only [hinl, look, hfit]
 split
 ·rename_i h
  exact absurd (h.symm.trans hD) (by simp)
 ·rename_i D' hD'
  have e : D' = D := Option.some.inj (hD'.symm.trans hD)
  subst e
  rw [if_pos (beqt.2 hf), hc]
end
end Go.GV
namespace Go.GV
section
variable {E : Env} {s t s1 : St} {o : Oper} {out : Out E}
theorem frzAll_one (s : St) (r : Nat) : s.frz r = s.frzAll [.o r] := rfl
theorem step_frz {g : List Bool} {x : Slot} {ob : List (Nat × Ob)} (h : step E s o = some (s1, .go g x ob)) : ∃ l, s1 = s.frzAll l := by
 cases ho : o.op with
 | slice T y lo hi mx =>
  cases mx with
  | some m => simp only [step, ho] at h; cases h
  | none =>
   simp only [step, ho] at h
   (repeat' (split at h)) <;> first | (cases h; done) | (cases h; exact ⟨[], rfl⟩) | (cases h; exact ⟨_, frzAll_one _ _⟩)
 | convert a b y =>
  simp only [step, ho] at h
  (repeat' (split at h)) <;> first | (cases h; done) | (cases h; exact ⟨[], rfl⟩) | (cases h; exact ⟨_, frzAll_one _ _⟩)
 | buildSlice T n ps =>
  simp only [step, ho] at h
  split at h
  ·(repeat' (split at h)) <;> first | (cases h; done) | (cases h; exact ⟨[], rfl⟩)
  ·(repeat' (split at h)) <;> first | (cases h; done) | (cases h; exact ⟨_, rfl⟩)
 | call c =>
  cases hb : c.callee with
  | value y =>
   cases y with
   | func f =>
    simp only [step, ho, hb] at h
    unfold callOut at h
    (repeat' (split at h)) <;> cases h
   | global g => simp only [step, ho, hb, St.opnd] at h; cases h
   | _ =>
    simp only [step, ho, hb] at h
    split at h
    ·split at h
     ·unfold callOut at h
      (repeat' (split at h)) <;> cases h
     ·cases h
    ·cases h
  | invoke r m => simp only [step, ho, hb] at h; cases h
  | builtin b =>
   cases b <;> first
    | (simp only [step, ho, hb] at h; cases h; done)
    | (simp only [step, ho, hb, appd] at h; (repeat' (split at h)) <;> first | (cases h; done) | (cases h; exact ⟨[], rfl⟩))
 | typeAssert y T U b =>
  cases b <;> simp only [step, ho] at h <;> (repeat' (split at h)) <;> first | (cases h; done) | (cases h; exact ⟨[], rfl⟩)
 | makeFunc f l m =>
  cases f <;> simp only [step, ho] at h <;> (repeat' (split at h)) <;> first | (cases h; done) | (cases h; exact ⟨[], rfl⟩)
 | _ =>
  simp only [step, ho] at h
  first
   | (cases h; done)
   | (cases h; exact ⟨[], rfl⟩)
   | ((repeat' (split at h)) <;> first | (cases h; done) | (cases h; exact ⟨[], rfl⟩))
theorem step_same {g : List Bool} {x : Slot} {ob : List (Nat × Ob)} (h : step E s o = some (s1, .go g x ob)) (hl : sameLen s1.ob s.ob = true) : s1 = s := by
 obtain ⟨l, rfl⟩ := step_frz h
 exact ((frzAll_len l s).2 (sameLen_eq hl)).1
theorem step_value {key : Nat} {x : (E.argT key).D} {k : (E.resT key).D → Option (Slot × List (Nat × Ob))} (h : step E s o = some (s1, .call key x k)) :
  ∃ c f caps, o.op = .call c ∧ (∀ y ∈ c.args.toList, y ∈ o.op.operands.toList) ∧ callOut E s o.dst f c.args.toList caps = some (s1, .call key x k) ∧ (∀ as0, s.cellsOf c.args.toList = some as0 → s.callee o = some (f, as0 ++ caps)) ∧
   (∀ t, Agr o s t → step E t o = callOut E t o.dst f c.args.toList caps) ∧ ∀ y ∈ caps, ∀ n ∈ y.nms, n ∈ s.opNms o := by
 cases ho : o.op with
 | call c =>
  have hargs : ∀ y ∈ c.args.toList, y ∈ o.op.operands.toList := fun y hy => by simp only [ho, Op.operands, Call.operands, Array.toList_append]; exact List.mem_append_right _ hy
  cases hb : c.callee with
  | value y =>
   have hy : y ∈ o.op.operands.toList := by simp [ho, Op.operands, Call.operands, hb]
   cases y with
   | func f =>
    simp only [step, ho, hb] at h
    refine ⟨c, f, [], rfl, ho ▸ hargs, h, fun as0 has => by simp only [St.callee, ho, hb, has, List.append_nil], fun t _ => by simp only [step, ho, hb], fun y hy => by cases hy⟩
   | global g => simp only [step, ho, hb, St.opnd] at h; cases h
   | tmp i =>
    simp only [step, ho, hb] at h
    split at h
    ·rename_i f cs e1
     split at h
     ·rename_i hfb
      refine ⟨c, f, cs.map fun b => .lf (.p b 0), rfl, ho ▸ hargs, h, fun as0 has => by simp only [St.callee, ho, hb, has, e1], fun t ha => by simp only [step, ho, hb, ha.op _ hy, e1, if_pos hfb], fun y hy2 n hn => ?_⟩
      obtain ⟨b, hbm, rfl⟩ := List.mem_map.1 hy2
      simp only [Slot.nms, Lf.nms, List.mem_singleton] at hn
      subst hn
      exact opNms_mem hy e1 hbm
     ·cases h
    ·cases h
   | const v =>
    simp only [step, ho, hb] at h
    split at h
    ·rename_i f cs e1
     split at h
     ·rename_i hfb
      refine ⟨c, f, cs.map fun b => .lf (.p b 0), rfl, ho ▸ hargs, h, fun as0 has => by simp only [St.callee, ho, hb, has, e1], fun t ha => by simp only [step, ho, hb, ha.op _ hy, e1, if_pos hfb], fun y hy2 n hn => ?_⟩
      obtain ⟨b, hbm, rfl⟩ := List.mem_map.1 hy2
      simp only [Slot.nms, Lf.nms, List.mem_singleton] at hn
      subst hn
      exact opNms_mem hy e1 hbm
     ·cases h
    ·cases h
  | invoke r m => simp only [step, ho, hb] at h; cases h
  | builtin b =>
   exfalso
   rcases step_cases h with ⟨g, x, ob, e⟩ | ⟨c', y, z, e⟩ | ⟨c', y, e, e2⟩
   ·cases e
   ·rw [ho] at e; cases e
   ·rw [ho] at e; cases e; rw [hb] at e2; cases e2
 | _ =>
  exfalso
  rcases step_cases h with ⟨g, x, ob, e⟩ | ⟨c', y, z, e⟩ | ⟨c', y, e, e2⟩
  ·cases e
  ·simp only [step, e] at h
   split at h <;> cases h
  ·rw [ho] at e; cases e
theorem callOK_spec {r : Bool} {f : FuncId} {as : List Slot} (h : callOK E s o r = true) (hc : s.callee o = some (f, as)) : ∀ x ∈ E.fn, x.2.fid = f →
  (isNil (rowNames (x.2.par.valsA s.ob as)) || !(x.2.res.vr || x.2.par.inout.vr)) = true ∧ (r = true → x.2.par.cnt = 0) := by
 intro x hx hf
 unfold callOK at h
 rw [hc] at h
 have := List.all_eq_true.1 h x hx
 simp only [Bool.or_eq_true, Bool.and_eq_true, Bool.not_eq_true'] at this
 rcases this with this | ⟨h1, h2⟩
 ·exact absurd (beqt.2 hf) (by rw [this]; decide)
 ·refine ⟨by simpa using h1, fun hr => ?_⟩
  rcases h2 with h2 | h2
  ·rw [hr] at h2; cases h2
  ·exact beqt.1 h2
theorem look_putAll_out {n : Nat} : ∀ {l ob : List (Nat × Ob)}, n ∉ l.map (·.1) → look (putAll ob l) n = look ob n
 | [], _, _ => rfl
 | (k, b) :: l, ob, h => by
  simp only [List.map_cons, List.mem_cons, not_or] at h
  simp only [putAll]
  rw [look_putAll_out h.2, look_put, if_neg (Ne.symm h.1)]
theorem keysGone_spec {ob : List (Nat × Ob)} {ns : List Nat} {n : Nat} (h : n ∉ keysGone ob (delAll ob ns)) : look (delAll ob ns) n = look ob n := by
 cases h1 : look ob n with
 | none =>
  cases h2 : look (delAll ob ns) n with
  | none => rfl
  | some b => rw [(look_delAll h2).2] at h1; cases h1
 | some b =>
  cases h2 : look (delAll ob ns) n with
  | some b' => rw [← h1, (look_delAll h2).2]
  | none =>
   refine absurd ?_ h
   unfold keysGone
   rw [List.mem_filter]
   exact ⟨List.mem_map.2 ⟨_, look_mem h1, rfl⟩, by rw [h2]⟩
theorem renewOK_congr {s t : St} : ∀ {bk : List Nat} {fl : List Bool}, (∀ i m : Nat, bk[i]? = some m → fl[i]? = some true → t.fresh (m + 1000000) = s.fresh (m + 1000000)) → renewOK t bk fl = renewOK s bk fl
 | m :: bk, true :: fl, h => by
  simp only [renewOK]
  rw [h 0 m rfl rfl, renewOK_congr (bk := bk) (fl := fl) fun i k h1 h2 => h (i + 1) k (by simpa using h1) (by simpa using h2)]
 | m :: bk, false :: fl, h => by
  simp only [renewOK]
  rw [renewOK_congr (bk := bk) (fl := fl) fun i k h1 h2 => h (i + 1) k (by simpa using h1) (by simpa using h2)]
 | [], _, _ => by simp [renewOK]
 | _ :: _, [], _ => by simp [renewOK]
theorem renew_mem : ∀ {bk : List Nat} {fl : List Bool} {i m : Nat}, bk[i]? = some m → fl[i]? = some true → (renew bk fl)[i]? = some (m + 1000000)
 | m :: bk, true :: fl, 0, k, h, _ => by simp at h; subst h; rfl
 | m :: bk, false :: fl, 0, k, _, h => by simp at h
 | m :: bk, b :: fl, i + 1, k, h1, h2 => by
  have := renew_mem (bk := bk) (fl := fl) (i := i) (m := k) (by simpa using h1) (by simpa using h2)
  cases b <;> simpa [renew] using this
 | [], _, _, _, h, _ => by simp at h
 | _ :: _, [], _, _, _, h => by simp at h
def resSlot : List (Bool × List Lf) → Slot
 | [] => .lf .u
 | [c] => slotOf c
 | cs => .tp cs
theorem backOf_inv {D : FnD} {s2 : St} {d : Nat} {rn : List Nat} {r : (D.res.T.app D.par.inout.T).D} {y : Slot} {l : List (Nat × Ob)} (h : backOf D s2 d rn r = some (y, l)) :
  ∃ c back rest cs new rest', D.par.inout.mk rn (D.res.T.snd D.par.inout.T r) = some (c, back, rest) ∧ D.res.mkA (from_ d 8) (D.res.T.fst D.par.inout.T r) = some (cs, new, rest') ∧
   (new.all fun y => s2.fresh y.1 && !(rn.any (Nat.beq y.1))) = true ∧ y = resSlot cs ∧ l = back ++ new := by
 unfold backOf at h
 split at h
 ·cases h
 ·rename_i c back rest h1
  split at h
  ·cases h
  ·rename_i cs new rest' h2
   split at h
   ·rename_i h3
    cases h
    exact ⟨c, back, rest, cs, new, rest', h1, h2, h3, by cases cs with | nil => rfl | cons a l => cases l <;> rfl, rfl⟩
   ·cases h
theorem backOf_mk {D : FnD} {s2 : St} {d : Nat} {rn : List Nat} {r : (D.res.T.app D.par.inout.T).D} {c : List Lf} {back : List (Nat × Ob)} {rest r2 : List Nat} {cs : List (Bool × List Lf)} {new : List (Nat × Ob)}
  (h1 : D.par.inout.mk rn (D.res.T.snd D.par.inout.T r) = some (c, back, rest)) (h2 : D.res.mkA (from_ d 8) (D.res.T.fst D.par.inout.T r) = some (cs, new, r2))
  (h3 : (new.all fun y => s2.fresh y.1 && !(rn.any (Nat.beq y.1))) = true) : backOf D s2 d rn r = some (resSlot cs, back ++ new) := by
 unfold backOf
 simp only [h1, h2, h3, if_true]
 cases cs with
 | nil => rfl
 | cons a l => cases l <;> rfl
theorem withOb_fresh {ob : List (Nat × Ob)} {n : Nat} (h : t.sl.any (Slot.names n) = s.sl.any (Slot.names n)) : (t.withOb ob).fresh n = (s.withOb ob).fresh n := by
 unfold St.fresh St.withOb
 simp only [h]
theorem w_call {key : Nat} {x : (E.argT key).D} {k : (E.resT key).D → Option (Slot × List (Nat × Ob))} (hinl : E.inl = []) (ha : Agr o s t) (hob : t.ob = s.ob) (hok : callOK E s o false = true) (h : step E s o = some (s1, .call key x k)) {r : (E.resT key).D} {y : Slot} {l : List (Nat × Ob)}
  (hk : k r = some (y, l)) (hsa : ∀ n, n ∈ l.map (·.1) ++ from_ (s.id o.dst) 8 → t.sl.any (Slot.names n) = s.sl.any (Slot.names n)) :
  (∃ k', step E t o = some (t.withOb s1.ob, .call key x k') ∧ k' r = some (y, l)) ∧ s1 = s.withOb s1.ob ∧ ∀ n, n ∉ keysGone s.ob s1.ob → n ∉ l.map (·.1) → look (putAll s1.ob l) n = look s.ob n := by
 obtain ⟨c, f, caps, ho, hargs, hco, hcal, hst, hcaps⟩ := step_value h
 obtain ⟨as0, key', D, x0, k0, hD, has, hfit, hf, hcd, hout⟩ := callOut_inv hinl hco
 by_cases hopt : D.opt = true
 ·rw [if_pos hopt] at hout; cases hout
 rw [if_neg hopt] at hout
 cases hout
 obtain ⟨hnf, _⟩ := callOK_spec hok (hcal as0 has) (key, D) (look_mem hD) hf
 obtain ⟨ns, h1, h2, h3, h4, h5⟩ := callD_inv hnf has hcd
 subst h3
 subst h5
 simp only [cast_cast, cast_eq, backAny, if_neg hopt] at hk
 obtain ⟨cc, back, rest, cs, new, rest', b1, b2, b3, b4, b5⟩ := backOf_inv hk
 subst b5
 obtain ⟨q1, q2⟩ := mks_keys b1
 obtain ⟨q3, q4⟩ := mkA_keys b2
 have hid : t.id o.dst = s.id o.dst := ha.id
 have has' : t.cellsOf c.args.toList = some as0 := by rw [cellsOf_congr fun y hy => ha.op y (hargs y hy)]; exact has
 have hnf' : (isNil (rowNames (D.par.valsA t.ob (as0 ++ caps))) || !(D.res.vr || D.par.inout.vr)) = true := by rw [hob]; exact hnf
 have hfit' : fits t f (as0 ++ caps) E.fn = some key := by rw [fits_congr (s := s) fun x _ _ => by rw [hob]]; exact hfit
 have hren : ∀ i m : Nat, (D.par.keep ns)[i]? = some m → D.nst[i]? = some true → m + 1000000 ∈ back.map (·.1) := by
  intro i m g1 g2
  have g3 := renew_mem g1 g2
  rw [q1] at g3
  have hi : i < (back.map (·.1)).length := by
   rw [List.length_map, q2, ← nst_len]
   exact (List.getElem?_eq_some_iff.1 g2).1
  rw [List.getElem?_append_left hi] at g3
  exact List.mem_of_getElem? g3
 refine ⟨⟨fun r => backAny D (t.withOb (delAll s.ob ns)) (t.id o.dst) (renew (D.par.keep ns) D.nst) (cast (by rw [Env.resT, hD]) r), ?_, ?_⟩, rfl, fun n hn hn2 => ?_⟩
 ·rw [hst t ha]
  refine (callOut_mk (s := t) hinl hD has' hfit' hf ?_).trans (by rw [if_neg hopt])
  refine (callD_mk hnf' has' (ns := ns) ⟨by rw [hob]; exact h1, by rw [hob]; exact h2, by rw [hob]; rfl, ?_, rfl⟩)
  simp only [Bool.and_eq_true] at h4 ⊢
  obtain ⟨⟨g1, g2⟩, g3⟩ := h4
  refine ⟨⟨g1, ?_⟩, by rw [hob]; exact g3⟩
  rw [renewOK_congr (s := s.withOb (delAll s.ob ns))]
  ·exact g2
  ·intro i m e1 e2
   have := hren i m e1 e2
   refine withOb_fresh (hsa _ ?_)
   rw [List.map_append]
   exact List.mem_append_left _ (List.mem_append_left _ this)
 ·simp only [cast_cast, cast_eq, backAny, if_neg hopt]
  rw [b4]
  refine backOf_mk b1 (by rw [hid]; exact b2) ?_
  rw [List.all_eq_true] at b3 ⊢
  intro z hz
  have := b3 z hz
  simp only [Bool.and_eq_true] at this ⊢
  refine ⟨?_, this.2⟩
  rw [withOb_fresh (hsa z.1 ?_)]
  ·exact this.1
  ·refine List.mem_append_right _ ?_
   rw [q3]
   exact List.mem_append_left _ (List.mem_map.2 ⟨z, hz, rfl⟩)
 ·rw [look_putAll_out hn2]
  exact keysGone_spec hn
theorem r_call {key : Nat} {x : (E.argT key).D} {k : (E.resT key).D → Option (Slot × List (Nat × Ob))} (hinl : E.inl = []) (ha : Agr o s t) (hl : ∀ n ∈ s.opNms o, look t.ob n = look s.ob n) (hok : callOK E s o true = true) (h : step E s o = some (s1, .call key x k))
  (hlen : sameLen s1.ob s.ob = true) {r : (E.resT key).D} {y : Slot} (hk : k r = some (y, [])) : s1 = s ∧ ∃ k', step E t o = some (t, .call key x k') ∧ k' r = some (y, []) := by
 obtain ⟨c, f, caps, ho, hargs, hco, hcal, hst, hcaps⟩ := step_value h
 obtain ⟨as0, key', D, x0, k0, hD, has, hfit, hf, hcd, hout⟩ := callOut_inv hinl hco
 by_cases hopt : D.opt = true
 ·rw [if_pos hopt] at hout; cases hout
 rw [if_neg hopt] at hout
 cases hout
 have hspec := callOK_spec hok (hcal as0 has)
 obtain ⟨hnf, hcnt⟩ := hspec (key, D) (look_mem hD) hf
 have hcnt := hcnt rfl
 obtain ⟨ns, h1, h2, h3, h4, h5⟩ := callD_inv hnf has hcd
 subst h3
 subst h5
 simp only [cast_cast, cast_eq, backAny, if_neg hopt] at hk
 obtain ⟨cc, back, rest, cs, new, rest', b1, b2, b3, b4, b5⟩ := backOf_inv hk
 have hnew : back = [] ∧ new = [] := by simpa using b5.symm
 have hnm : ∀ c ∈ as0 ++ caps, ∀ n ∈ c.nms, look t.ob n = look s.ob n := by
  intro c' hc' n hn
  refine hl n ?_
  rcases List.mem_append.1 hc' with hc' | hc'
  ·have : ∀ {l : List Operand} {cs : List Slot}, s.cellsOf l = some cs → ∀ c ∈ cs, ∃ y ∈ l, s.opnd y = some c := by
    intro l
    induction l with
    | nil => intro cs h c hc; simp only [St.cellsOf] at h; cases h; cases hc
    | cons y l ih =>
     intro cs h c hc
     simp only [St.cellsOf] at h
     split at h
     ·rename_i z hz
      split at h
      ·rename_i r' hr
       cases h
       rcases List.mem_cons.1 hc with rfl | hc
       ·exact ⟨y, List.mem_cons_self, hz⟩
       ·obtain ⟨y', h1, h2⟩ := ih hr c hc
        exact ⟨y', List.mem_cons_of_mem _ h1, h2⟩
      ·cases h
     ·cases h
   obtain ⟨y', h1, h2⟩ := this has c' hc'
   exact opNms_mem (hargs y' h1) h2 hn
  ·exact hcaps c' hc' n hn
 obtain ⟨htk, hns⟩ := takeA_congr (ob := s.ob) (ob' := t.ob) (s := D.par) (l := as0 ++ caps) hcnt hnm
 have hns0 := hns _ _ h1
 subst hns0
 have hvals : D.par.valsA t.ob (as0 ++ caps) = D.par.valsA s.ob (as0 ++ caps) := valsA_congr hcnt
 have hid : t.id o.dst = s.id o.dst := ha.id
 have has' : t.cellsOf c.args.toList = some as0 := by rw [cellsOf_congr fun y hy => ha.op y (hargs y hy)]; exact has
 have hnf' : (isNil (rowNames (D.par.valsA t.ob (as0 ++ caps))) || !(D.res.vr || D.par.inout.vr)) = true := by rw [hvals]; exact hnf
 have hfit' : fits t f (as0 ++ caps) E.fn = some key := by
  rw [fits_congr (s := s) fun x hx hfx => (takeA_congr ((hspec x hx hfx).2 rfl) hnm).1]
  exact hfit
 have hkeep : D.par.keep ([] : List Nat) = [] := by
  cases hkk : D.par.keep ([] : List Nat) with
  | nil => rfl
  | cons n l => exact absurd (keep_mem D.par [] n (by rw [hkk]; exact List.mem_cons_self)) (by simp)
 refine ⟨rfl, ⟨fun r => backAny D t (t.id o.dst) (renew (D.par.keep []) D.nst) (cast (by rw [Env.resT, hD]) r), ?_, ?_⟩⟩
 ·rw [hst t ha]
  refine (callOut_mk (s := t) (s1 := t) hinl hD has' hfit' hf ?_).trans (by rw [if_neg hopt])
  refine (callD_mk hnf' has' (s2 := t) (ns := []) ⟨htk.trans h1, by rw [hvals]; exact h2, rfl, ?_, rfl⟩)
  simp only [Bool.and_eq_true] at h4 ⊢
  obtain ⟨⟨g1, g2⟩, g3⟩ := h4
  refine ⟨⟨g1, ?_⟩, by rw [hvals]; exact g3⟩
  rw [hkeep]
  simp [renewOK]
 ·simp only [cast_cast, cast_eq, backAny, if_neg hopt]
  obtain ⟨rfl, rfl⟩ := hnew
  rw [b4]
  exact backOf_mk b1 (by rw [hid]; exact b2) (by simp)
end
end Go.GV
namespace Go.GV
section
variable {P : Program} {E : Env} {R : Type} {ev : Ev E} {inl : FuncId → List Slot → St → (Slot → List (Nat × Ob) → Option R) → Option R} {ops : Array Oper} {s t s1 s2 : St} {o : Oper}
theorem set_get (s : St) (i : Nat) (x : Slot) (h : s.get i = x) : s.set i x = s := by
 have : s.sl.set i x = s.sl := by
  subst h
  apply List.ext_getElem?
  intro j
  rw [List.getElem?_set]
  by_cases hij : i = j
  ·subst hij
   rw [if_pos rfl]
   by_cases hl : i < s.sl.length
   ·rw [if_pos hl]
    simp [St.get, hl]
   ·rw [if_neg hl, List.getElem?_eq_none (by omega)]
  ·rw [if_neg hij]
 unfold St.set
 rw [this]
theorem get_setd {d : Option Nat} {x : Slot} {j : Nat} (h : ∀ i, d = some i → i ≠ j) : (s.setd d x).get j = s.get j := by
 cases d with
 | none => rfl
 | some i =>
  simp only [St.setd, St.set, St.get, List.getD_eq_getElem?_getD]
  rw [List.getElem?_set_ne (h i rfl)]
theorem setd_comm {d e : Option Nat} {x y : Slot} (h : ∀ i, d = some i → e ≠ some i) : (s.setd d x).setd e y = (s.setd e y).setd d x := by
 cases d with
 | none => rfl
 | some i =>
  cases e with
  | none => rfl
  | some j =>
   have : i ≠ j := fun e => h i rfl (by rw [e])
   simp only [St.setd, St.set]
   rw [List.set_comm _ _ this]
theorem setd_b (d : Option Nat) (x : Slot) : (s.setd d x).b = s.b := (setd_ob s d x).2
theorem setd_withOb {d : Option Nat} {x : Slot} {ob : List (Nat × Ob)} : (s.withOb ob).setd d x = (s.setd d x).withOb ob := by cases d <;> rfl
theorem any_set {f : Slot → Bool} : ∀ {l : List Slot} {i : Nat} {x : Slot}, f x = false → f (l.getD i (.lf .u)) = false → (l.set i x).any f = l.any f
 | [], _, _, _, _ => rfl
 | y :: l, 0, x, hx, hy => by simp at hy; simp [hx, hy]
 | y :: l, i + 1, x, hx, hy => by simp only [List.set_cons_succ, List.any_cons]; rw [any_set hx (by simpa using hy)]
theorem any_setd {d : Option Nat} {x : Slot} {n : Nat} (hx : n ∉ x.nms) (ho : n ∉ s.oldNms d) : (s.setd d x).sl.any (Slot.names n) = s.sl.any (Slot.names n) := by
 cases d with
 | none => rfl
 | some i => exact any_set (slot_names_f hx) (slot_names_f ho)
structure Sees (ops : Array Oper) (o : Oper) (s t : St) : Prop where
 b : t.b = s.b
 get : ∀ j ∈ o.looksAt ops, t.get j = s.get j
theorem Sees.trans (h : Sees ops o s s1) (h' : Sees ops o s1 s2) : Sees ops o s s2 := ⟨h'.b.trans h.b, fun j hj => (h'.get j hj).trans (h.get j hj)⟩
theorem Sees.agr (h : Sees ops o s t) : Agr o s t := ⟨h.b, fun y hy => by
 cases y with
 | tmp j => exact congrArg some (h.get j (List.mem_append_left _ (List.mem_filterMap.2 ⟨.tmp j, hy, rfl⟩)))
 | _ => rfl⟩
theorem Sees.setd {d : Option Nat} {x : Slot} (h : ∀ i, d = some i → i ∉ o.looksAt ops) : Sees ops o s (s.setd d x) := ⟨setd_b d x, fun j hj => get_setd fun i hi => fun e => h i hi (e ▸ hj)⟩
theorem Sees.setd' {d : Option Nat} {x : Slot} (h : ∀ i, d = some i → i ∉ o.looksAt ops) : Sees ops o (s.setd d x) s := ⟨(setd_b d x).symm, fun j hj => (get_setd fun i hi => fun e => h i hi (e ▸ hj)).symm⟩
theorem Sees.withOb {ob : List (Nat × Ob)} : Sees ops o s (s.withOb ob) := ⟨rfl, fun _ _ => rfl⟩
def To (ev : Ev E) (inl : FuncId → List Slot → St → (Slot → List (Nat × Ob) → Option R) → Option R) (ops : Array Oper) (o : Oper) (s s' : St) : Prop := ∀ K : St → Option R, opsK E ev inl ops [o] s K = K s'
def Tr (ev : Ev E) (inl : FuncId → List Slot → St → (Slot → List (Nat × Ob) → Option R) → Option R) (ops : Array Oper) (o : Oper) (e : Ent) (s s' : St) : Prop :=
 if e.w = true then
  ∃ x ob, s' = (s.withOb ob).setd o.dst x ∧ (∀ n, n ∉ e.nm → look ob n = look s.ob n) ∧
   ∀ t, Sees ops o s t → t.ob = s.ob → (∀ n ∈ e.mn, t.sl.any (Slot.names n) = s.sl.any (Slot.names n)) → To ev inl ops o t ((t.withOb ob).setd o.dst x)
 else
  ∃ x, s' = s.setd o.dst x ∧ (∀ n ∈ s.oldNms o.dst, n ∈ e.mn) ∧ (∀ n ∈ x.nms, n ∈ e.mn) ∧
   ∀ t, Sees ops o s t → (∀ n ∈ e.nm, look t.ob n = look s.ob n) → To ev inl ops o t (t.setd o.dst x)
theorem Tr.to {e : Ent} {s' : St} (h : Tr ev inl ops o e s s') : To ev inl ops o s s' := by
 unfold Tr at h
 split at h
 ·obtain ⟨x, ob, rfl, _, h⟩ := h
  exact h s ⟨rfl, fun _ _ => rfl⟩ rfl fun _ _ => rfl
 ·obtain ⟨x, rfl, _, _, h⟩ := h
  exact h s ⟨rfl, fun _ _ => rfl⟩ fun _ _ => rfl
theorem guards_all : ∀ {g : List Bool} {x : Option R}, g.all id = true → guards g x = x
 | [], _, _ => rfl
 | b :: l, x, h => by
  simp only [List.all_cons, Bool.and_eq_true, id] at h
  obtain ⟨h1, h2⟩ := h
  subst h1
  exact guards_all (g := l) h2
def TrS (ev : Ev E) (inl : FuncId → List Slot → St → (Slot → List (Nat × Ob) → Option R) → Option R) (ops : Array Oper) (o : Oper) (e : Ent) (s s' : St) : Prop :=
 if e.w = true then
  ∃ x ob, s' = (s.withOb ob).setd o.dst x ∧ (∀ n, n ∉ e.nm → look ob n = look s.ob n) ∧
   ∀ t, Sees ops o s t → t.ob = s.ob → (∀ n ∈ e.mn, t.sl.any (Slot.names n) = s.sl.any (Slot.names n)) → ∀ K : St → Option R, stepK E ev inl t o K = K ((t.withOb ob).setd o.dst x)
 else
  ∃ x, s' = s.setd o.dst x ∧ (∀ n ∈ s.oldNms o.dst, n ∈ e.mn) ∧ (∀ n ∈ x.nms, n ∈ e.mn) ∧
   ∀ t, Sees ops o s t → (∀ n ∈ e.nm, look t.ob n = look s.ob n) → ∀ K : St → Option R, stepK E ev inl t o K = K (t.setd o.dst x)
theorem beq_self (n : Nat) : Nat.beq n n = true := beqt.2 rfl
theorem r_slot {out : Out E} (hso : slotOp o.op = true) (ha : Agr o s t) (h : step E s o = some (s, out)) : Reads E o s t out := by
 cases ho : o.op with
 | move y => exact r_move (.inl ho) ha h
 | assign y => exact r_move (.inr ho) ha h
 | pick c y z => exact r_pick ho ha h
 | _ => rw [ho] at hso; cases hso
theorem stepE_tr (hinl : E.inl = []) {K : St → Ent → Option R} {r : R} (h : stepE E ev s o K = some r) : ∃ s' e, TrS ev inl ops o e s s' ∧ K s' e = some r := by
 unfold stepE at h
 split at h
 ·rename_i s1 out hs
  split at h
  ·rename_i hb
   cases out with
   | go g x ob =>
    dsimp only at h
    split at h
    ·rename_i hl
     obtain ⟨hg, hk⟩ := guards_some h
     have e1 := step_same hs hl
     subst e1
     cases hr : (rOp o.op || E.litO o) with
     | true =>
      rw [hr, if_pos rfl] at hk
      have hob : ob = s1.ob := by
       rcases r_step hr ⟨rfl, fun _ _ => rfl⟩ (fun _ _ => rfl) hs with ⟨g', x', e, _⟩ | ⟨c, y, z, e, _⟩
       ·cases e; rfl
       ·cases e
      subst hob
      refine ⟨_, _, ?_, hk⟩
      unfold TrS
      rw [if_neg (by simp)]
      refine ⟨x, rfl, fun n hn => by simp [hn], fun n hn => by simp [hn], fun t ht hl' K' => ?_⟩
      have hrs : Reads E o s1 t (.go g x s1.ob) := by
       cases hso : slotOp o.op with
       | true => exact r_slot hso ht.agr hs
       | false =>
        rw [hso, if_neg (by simp)] at hl'
        exact r_step hr ht.agr hl' hs
      rcases hrs with ⟨g', x', e, hst⟩ | ⟨c, y, z, e, _⟩
      ·cases e
       simp only [stepK, hst, beq_self, if_true, Out.cps]
       exact guards_all hg
      ·cases e
     | false =>
      rw [hr, if_neg (by simp)] at hk
      have hw := fun t (ht : Agr o s1 t) hob hf => w_step hr ht hob hf hinl hs
      refine ⟨_, _, ?_, hk⟩
      unfold TrS
      rw [if_pos rfl]
      refine ⟨x, ob, rfl, fun n hn => ?_, fun t ht hob hf K' => ?_⟩
      ·obtain ⟨g', x', ob', e, _, h2⟩ := hw s1 ⟨rfl, fun _ _ => rfl⟩ rfl rfl
       cases e
       simp only [List.mem_append, not_or] at hn
       refine h2 n hn.1 ?_
       rintro rfl
       exact hn.2 (by simp [from_])
      ·have hfr : t.fresh (s1.id o.dst) = s1.fresh (s1.id o.dst) := by
        unfold St.fresh
        rw [hob, hf (s1.id o.dst) (by simp [from_])]
       obtain ⟨g', x', ob', e, hst, _⟩ := hw t ht.agr hob hfr
       cases e
       simp only [stepK, hst, beq_self, if_true, Out.cps]
       exact guards_all hg
    ·cases h
   | br c x y =>
    dsimp only at h
    have hpk : rOp o.op = true := by
     rcases step_cases hs with ⟨g, x, ob, e⟩ | ⟨c', y', z, e⟩ | ⟨c', y', e, e2⟩
     ·cases e
     ·rw [e]; rfl
     ·exfalso
      cases y' with
      | func f =>
       simp only [step, e, e2] at hs
       obtain ⟨_, _, _, _, e⟩ := callOut_go hinl hs
       rcases e with e | e <;> cases e
      | global g => simp only [step, e, e2, St.opnd] at hs; cases hs
      | _ =>
       simp only [step, e, e2] at hs
       split at hs
       ·split at hs
        ·obtain ⟨_, _, _, _, e⟩ := callOut_go hinl hs
         rcases e with e | e <;> cases e
        ·cases hs
       ·cases hs
    have hpk2 : slotOp o.op = true := by
     rcases step_cases hs with ⟨g, x, ob, e⟩ | ⟨c', y', z, e⟩ | ⟨c', y', e, e2⟩
     ·cases e
     ·rw [e]; rfl
     ·rw [e] at hpk
      simp only [rOp, e2] at hpk
      cases hpk
    have e1 : s1 = s := by
     rcases step_cases hs with ⟨g, x, ob, e⟩ | ⟨c', y', z, e⟩ | ⟨c', y', e, e2⟩
     ·cases e
     ·simp only [step, e] at hs
      split at hs <;> cases hs
      rfl
     ·rw [e] at hpk
      simp only [rOp, e2] at hpk
      cases hpk
    subst e1
    cases c with
    | true =>
     refine ⟨_, _, ?_, h⟩
     unfold TrS
     rw [if_neg (by simp)]
     refine ⟨x, rfl, fun n hn => by simp [hn], fun n hn => by simp [hn], fun t ht hl' K' => ?_⟩
     rcases r_slot hpk2 ht.agr hs with ⟨g', x', e, hst⟩ | ⟨c, y', z', e, hst⟩
     ·cases e
     ·cases e
      simp only [stepK, hst, beq_self, if_true, Out.cps, cond_true]
    | false =>
     refine ⟨_, _, ?_, h⟩
     unfold TrS
     rw [if_neg (by simp)]
     refine ⟨y, rfl, fun n hn => by simp [hn], fun n hn => by simp [hn], fun t ht hl' K' => ?_⟩
     rcases r_slot hpk2 ht.agr hs with ⟨g', x', e, hst⟩ | ⟨c, y', z', e, hst⟩
     ·cases e
     ·cases e
      simp only [stepK, hst, beq_self, if_true, Out.cps, cond_false]
   | call f x k =>
    dsimp only at h
    split at h
    ·rename_i hok
     rw [Option.bind_eq_some_iff] at h
     obtain ⟨r', hr', h⟩ := h
     split at h
     ·rename_i y l hk
      split at h
      ·rename_i hc
       simp only [Bool.and_eq_true] at hc
       obtain ⟨⟨hc1, hc2⟩, hc3⟩ := hc
       have e1 := isNil_eq hc1
       subst e1
       obtain ⟨e2, _⟩ := r_call (t := s) hinl ⟨rfl, fun _ _ => rfl⟩ (fun _ _ => rfl) hc3 hs hc2 hk
       subst e2
       refine ⟨_, _, ?_, h⟩
       unfold TrS
       rw [if_neg (by simp)]
       refine ⟨y, rfl, fun n hn => by simp [hn], fun n hn => by simp [hn], fun t ht hl' K' => ?_⟩
       obtain ⟨_, k', hst, hk'⟩ := r_call hinl ht.agr hl' hc3 hs hc2 hk
       simp only [stepK, hst, beq_self, if_true, Out.cps, hr', Option.bind_some, hk']
       rfl
      ·refine ⟨_, _, ?_, h⟩
       unfold TrS
       rw [if_pos rfl]
       obtain ⟨_, e2, htouch⟩ := w_call (t := s) hinl ⟨rfl, fun _ _ => rfl⟩ rfl hok hs hk fun _ _ => rfl
       refine ⟨y, putAll s1.ob l, ?_, fun n hn => ?_, fun t ht hob hf K' => ?_⟩
       ·conv => lhs; rw [e2]
        rfl
       ·simp only [List.mem_append, not_or] at hn
        exact htouch n hn.1.1.2 hn.1.2
       ·obtain ⟨⟨k', hst, hk'⟩, _⟩ := w_call hinl ht.agr hob hok hs hk fun n hn => hf n (by
         exact hn)
        simp only [stepK, hst, St.withOb, beq_self, if_true, Out.cps, hr', Option.bind_some, hk']
     ·cases h
    ·cases h
   | callN f x k q => cases h
   | inl f x => cases h
  ·cases h
 ·cases h
theorem TrS.tr {e : Ent} {s' : St} (h : TrS ev inl ops o e s s') (hto : ∀ t, Sees ops o s t → ∀ s', (∀ K : St → Option R, stepK E ev inl t o K = K s') → To ev inl ops o t s') : Tr ev inl ops o e s s' := by
 unfold TrS at h
 unfold Tr
 split at h
 ·rename_i hw
  rw [if_pos hw]
  obtain ⟨x, ob, e, h1, h2⟩ := h
  exact ⟨x, ob, e, h1, fun t ht hob hf => hto t ht _ (h2 t ht hob hf)⟩
 ·rename_i hw
  rw [if_neg hw]
  obtain ⟨x, e, h0, h1, h2⟩ := h
  exact ⟨x, e, h0, h1, fun t ht hob => hto t ht _ (h2 t ht hob)⟩
theorem opE_tr (hinl : E.inl = []) {K : St → Ent → Option R} {r : R} (h : opE E ev ops o s K = some r) : ∃ s' e, Tr ev inl ops o e s s' ∧ K s' e = some r := by
 unfold opE at h
 split at h
 ·rename_i hg
  obtain ⟨s', e, h1, h2⟩ := stepE_tr (inl := inl) (ops := ops) hinl h
  refine ⟨s', e, h1.tr fun t _ s' hK K' => ?_, h2⟩
  simp only [opsK, hg]
  exact hK K'
 ·rename_i j want hg
  split at h
  ·rename_i g hgt
   have hlook : g ∈ o.looksAt ops := by
    unfold Oper.looksAt
    refine List.mem_append_right _ ?_
    rw [hg]
    simp [hgt]
   have skip : ∀ {s' : St}, s' = s.setd o.dst (.lf .un) → K s' ⟨false, [], s.oldNms o.dst⟩ = some r → (∀ t, t.get g = s.get g → ∀ K' : St → Option R, opsK E ev inl ops [o] t K' = K' (t.setd o.dst (.lf .un))) →
     ∃ s' e, Tr ev inl ops o e s s' ∧ K s' e = some r := by
    intro s' e1 h1 h2
    refine ⟨s', _, ?_, h1⟩
    unfold Tr
    rw [if_neg (by simp)]
    exact ⟨.lf .un, e1, fun n hn => hn, fun n hn => by simp [Slot.nms, Lf.nms] at hn, fun t ht _ K' => h2 t (ht.get g hlook) K'⟩
   split at h
   ·rename_i hsl
    refine skip rfl h fun t ht K' => ?_
    simp only [opsK, hg, hgt, ht, hsl]
   ·rename_i c hsl
    have hset : ∀ t : St, t.get g = .lf (.v .bool c) → t.set g (.lf (.v .bool c)) = t := fun t ht => set_get t g _ ht
    have doit : ∀ {want' : Bool}, want = want' → (c : Bool) = want' → stepE E ev s o K = some r → ∃ s' e, Tr ev inl ops o e s s' ∧ K s' e = some r := by
     intro want' e1 e2 h1
     obtain ⟨s', e, h3, h4⟩ := stepE_tr (inl := inl) (ops := ops) hinl h1
     refine ⟨s', e, h3.tr fun t ht s' hK K' => ?_, h4⟩
     have ht' := (ht.get g hlook).trans hsl
     simp only [opsK, hg, hgt, ht']
     subst e1
     cases c with
     | true => cases want with
      | true => simp only [cond_true]; rw [hset t ht']; exact hK K'
      | false => cases e2
     | false => cases want with
      | true => cases e2
      | false => simp only [cond_false]; rw [hset t ht']; exact hK K'
    cases c with
    | true =>
     cases want with
     | true => simp only [cond_true] at h; rw [hset s hsl] at h; exact doit rfl rfl h
     | false =>
      simp only [cond_true, cond_false] at h
      rw [hset s hsl] at h
      refine skip rfl h fun t ht K' => ?_
      have ht' := ht.trans hsl
      simp only [opsK, hg, hgt, ht', cond_true, cond_false]
      rw [hset t ht']
    | false =>
     cases want with
     | true =>
      simp only [cond_true, cond_false] at h
      rw [hset s hsl] at h
      refine skip rfl h fun t ht K' => ?_
      have ht' := ht.trans hsl
      simp only [opsK, hg, hgt, ht', cond_true, cond_false]
      rw [hset t ht']
     | false => simp only [cond_false] at h; rw [hset s hsl] at h; exact doit rfl rfl h
   ·cases h
  ·cases h
end
end Go.GV
namespace Go.GV
section
variable {P : Program} {E : Env} {R : Type} {ev : Ev E} {inl : FuncId → List Slot → St → (Slot → List (Nat × Ob) → Option R) → Option R} {ops : Array Oper} {s t s1 s2 : St} {o : Oper}
theorem tr_w {e : Ent} {s' : St} (hw : e.w = true) : Tr ev inl ops o e s s' ↔ ∃ x ob, s' = (s.withOb ob).setd o.dst x ∧ (∀ n, n ∉ e.nm → look ob n = look s.ob n) ∧
   ∀ t, Sees ops o s t → t.ob = s.ob → (∀ n ∈ e.mn, t.sl.any (Slot.names n) = s.sl.any (Slot.names n)) → To ev inl ops o t ((t.withOb ob).setd o.dst x) := by
 unfold Tr
 rw [if_pos hw]
theorem tr_r {e : Ent} {s' : St} (hw : e.w = false) : Tr ev inl ops o e s s' ↔ ∃ x, s' = s.setd o.dst x ∧ (∀ n ∈ s.oldNms o.dst, n ∈ e.mn) ∧ (∀ n ∈ x.nms, n ∈ e.mn) ∧
   ∀ t, Sees ops o s t → (∀ n ∈ e.nm, look t.ob n = look s.ob n) → To ev inl ops o t (t.setd o.dst x) := by
 unfold Tr
 rw [if_neg (by rw [hw]; decide)]
theorem old_setd {d e : Option Nat} {x : Slot} (h : ∀ i, d = some i → e ≠ some i) : (s.setd d x).oldNms e = s.oldNms e := by
 cases e with
 | none => rfl
 | some j =>
  simp only [St.oldNms]
  rw [get_setd fun i hi e => h i hi (by rw [e])]
theorem relOK_spec {a b : Ent} (h : relOK a b = true) : (a.w = false ∧ b.w = false) ∨ (¬ (a.w = true ∧ b.w = true) ∧ (∀ n ∈ a.nm, n ∉ b.nm) ∧ ∀ n ∈ a.mn, n ∉ b.mn) := by
 unfold relOK at h
 simp only [Bool.or_eq_true, Bool.and_eq_true, Bool.not_eq_true', List.all_eq_true, List.any_eq_false] at h
 rcases h with h | ⟨⟨h1, h2⟩, h3⟩
 ·exact .inl h
 ·refine .inr ⟨fun ⟨e1, e2⟩ => (by rw [e1, e2] at h1; cases h1), fun n hn hb => ?_, fun n hn hb => ?_⟩
  ·exact absurd (beq_self n) (h2 n hn n hb)
  ·exact absurd (beq_self n) (h3 n hn n hb)
theorem Sees.withOb' {ob : List (Nat × Ob)} : Sees ops o (s.withOb ob) s := ⟨rfl, fun _ _ => rfl⟩
theorem swap {ok oi : Oper} {ek ei : Ent} (hap : Oper.apart ops ok oi = true) (hrel : relOK ek ei = true) (hk : Tr ev inl ops ok ek s s1) (hi : Tr ev inl ops oi ei s1 s2) : ∃ s1', Tr ev inl ops oi ei s s1' ∧ Tr ev inl ops ok ek s1' s2 := by
 obtain ⟨a1, a2, a3⟩ := Oper.apart_spec hap
 have a2' : ∀ d, oi.dst = some d → ok.dst ≠ some d := fun d h1 h2 => a2 d h2 h1
 cases hwk : ek.w with
 | false =>
  obtain ⟨x, rfl, k1, k2, k3⟩ := (tr_r hwk).1 hk
  cases hwi : ei.w with
  | false =>
   obtain ⟨y, rfl, i1, i2, i3⟩ := (tr_r hwi).1 hi
   have hob := (setd_ob s ok.dst x).1
   have hob2 := (setd_ob s oi.dst y).1
   refine ⟨s.setd oi.dst y, (tr_r hwi).2 ⟨y, rfl, by rw [← old_setd (x := x) a2]; exact i1, i2, fun t ht hl => i3 t ((Sees.setd' a1).trans ht) (by rw [hob]; exact hl)⟩, (tr_r hwk).2 ⟨x, ?_, by rw [old_setd a2']; exact k1, k2, fun t ht hl => ?_⟩⟩
   ·exact setd_comm a2
   ·exact k3 t ((Sees.setd a3).trans ht) (by rw [hob2] at hl; exact hl)
  | true =>
   obtain ⟨y, ob, rfl, i1, i2⟩ := (tr_w hwi).1 hi
   have hob := (setd_ob s ok.dst x).1
   rcases relOK_spec hrel with ⟨_, h⟩ | ⟨_, hdis, hmn⟩
   ·rw [hwi] at h; cases h
   refine ⟨(s.withOb ob).setd oi.dst y, (tr_w hwi).2 ⟨y, ob, rfl, fun n hn => by rw [i1 n hn, hob], fun t ht hto hf => i2 t ((Sees.setd' a1).trans ht) (hto.trans hob.symm) fun n hn => ?_⟩, (tr_r hwk).2 ⟨x, ?_, ?_, k2, fun t ht hl => ?_⟩⟩
   ·rw [hf n hn, any_setd (fun h => hmn n (k2 n h) hn) (fun h => hmn n (k1 n h) hn)]
   ·rw [setd_withOb, setd_withOb, setd_withOb, setd_comm a2]
   ·rw [old_setd a2']; exact k1
   ·refine k3 t ((Sees.withOb.trans (Sees.setd a3)).trans ht) fun n hn => ?_
    rw [hl n hn, (setd_ob _ _ _).1]
    exact (i1 n (hdis n hn)).trans (by rw [hob])
 | true =>
  obtain ⟨x, ob, rfl, k1, k2⟩ := (tr_w hwk).1 hk
  have hwi : ei.w = false := by
   rcases relOK_spec hrel with ⟨h, _⟩ | ⟨h, _⟩
   ·rw [hwk] at h; cases h
   ·cases hh : ei.w with
    | false => rfl
    | true => exact absurd ⟨hwk, hh⟩ h
  rcases relOK_spec hrel with ⟨h, _⟩ | ⟨_, hdis, hmn⟩
  ·rw [hwk] at h; cases h
  obtain ⟨y, rfl, i1, i2, i3⟩ := (tr_r hwi).1 hi
  have hob := (setd_ob (s.withOb ob) ok.dst x).1
  have hold : ((s.withOb ob).setd ok.dst x).oldNms oi.dst = s.oldNms oi.dst := (old_setd a2).trans rfl
  rw [hold] at i1
  refine ⟨s.setd oi.dst y, (tr_r hwi).2 ⟨y, rfl, i1, i2, fun t ht hl => i3 t (((Sees.setd' a1).trans Sees.withOb').trans ht) fun n hn => ?_⟩, (tr_w hwk).2 ⟨x, ob, ?_, fun n hn => ?_, fun t ht hto hf => ?_⟩⟩
  ·rw [hl n hn, hob]
   exact (k1 n (fun h => hdis n h hn)).symm
  ·rw [setd_withOb, setd_withOb, setd_comm a2, setd_withOb]
  ·rw [k1 n hn, (setd_ob _ _ _).1]
  ·refine k2 t ((Sees.setd a3).trans ht) (hto.trans (setd_ob _ _ _).1) fun n hn => ?_
   rw [hf n hn, any_setd (fun h => hmn n hn (i2 n h)) (fun h => hmn n hn (i1 n h))]
abbrev Pt := Nat × Oper × Ent
def Path (ev : Ev E) (inl : FuncId → List Slot → St → (Slot → List (Nat × Ob) → Option R) → Option R) (ops : Array Oper) : List Pt → St → St → Prop
 | [], s, s' => s' = s
 | p :: l, s, s' => ∃ s1, Tr ev inl ops p.2.1 p.2.2 s s1 ∧ Path ev inl ops l s1 s'
theorem path_move {x : Pt} : ∀ {l l' : List Pt} {s s' : St}, (∀ y ∈ l, relOK y.2.2 x.2.2 = true ∧ Oper.apart ops y.2.1 x.2.1 = true) → Path ev inl ops (l ++ x :: l') s s' → ∃ s1, Tr ev inl ops x.2.1 x.2.2 s s1 ∧ Path ev inl ops (l ++ l') s1 s'
 | [], l', s, s', _, h => h
 | y :: l, l', s, s', hy, ⟨s1, h1, h2⟩ => by
  obtain ⟨s2, h3, h4⟩ := path_move (fun z hz => hy z (List.mem_cons_of_mem _ hz)) h2
  obtain ⟨h5, h6⟩ := hy y List.mem_cons_self
  obtain ⟨s1', h7, h8⟩ := swap h6 h5 h1 h3
  exact ⟨s1', h7, s2, h8, h4⟩
def Later (m : Nat → Nat) (ops : Array Oper) (p q : Pt) : Prop := (m q.1).testBit p.1 = true ∨ (relOK p.2.2 q.2.2 = true ∧ Oper.apart ops p.2.1 q.2.1 = true)
def masks : List Oper → List Nat → List Nat
 | [], acc => acc
 | o :: l, acc => masks l (acc ++ [ancM acc o.after.toList])
theorem masks_pre : ∀ (l : List Oper) (acc : List Nat) (i : Nat), i < acc.length → (masks l acc)[i]? = acc[i]?
 | [], _, _, _ => rfl
 | o :: l, acc, i, h => by
  simp only [masks]
  rw [masks_pre l _ i (by simp; omega), List.getElem?_append_left h]
theorem logOK_spec {m : Nat} {e : Ent} : ∀ {l : List Pt}, logOK ops o m e l = true → ∀ p ∈ l, m.testBit p.1 = true ∨ (relOK p.2.2 e = true ∧ Oper.apart ops p.2.1 o = true)
 | [], _, p, hp => by cases hp
 | (j, o', e') :: l, h, p, hp => by
  simp only [logOK, Bool.and_eq_true, Bool.or_eq_true] at h
  rcases List.mem_cons.1 hp with rfl | hp
  ·exact h.1
  ·exact logOK_spec h.2 p hp
theorem drawK_path (hinl : E.inl = []) {K : St → Option R} {r : R} : ∀ {l : List Oper} {acc : List Nat} {s : St} {lg : List Pt}, drawK E ev ops l acc s lg K = some r →
  ∃ p s', Path ev inl ops p s s' ∧ K s' = some r ∧ p.map (fun x => (x.1, x.2.1)) = (List.range' acc.length l.length).zip l ∧
   p.Pairwise (Later (fun i => (masks l acc).getD i 0) ops) ∧ (∀ x ∈ lg, ∀ y ∈ p, Later (fun i => (masks l acc).getD i 0) ops x y)
 | [], acc, s, lg, h => ⟨[], s, rfl, h, rfl, List.Pairwise.nil, fun _ _ _ hy => by cases hy⟩
 | o :: l, acc, s, lg, h => by
  simp only [drawK] at h
  split at h
  ·obtain ⟨s1, e, h1, h2⟩ := opE_tr (inl := inl) hinl h
   split at h2
   ·rename_i hlog
    obtain ⟨p, s', h3, h4, h5, h6, h7⟩ := drawK_path hinl h2
    have hm : (masks (o :: l) acc).getD acc.length 0 = ancM acc o.after.toList := by
     simp only [masks, List.getD_eq_getElem?_getD]
     rw [masks_pre _ _ _ (by simp), List.getElem?_append_right (Nat.le_refl _)]
     simp
    refine ⟨(acc.length, o, e) :: p, s', ⟨s1, h1, h3⟩, h4, ?_, ?_, ?_⟩
    ·simp only [List.map_cons, h5, List.length_append, List.length_cons, List.length_nil, List.range'_succ, List.zip_cons_cons]
    ·exact List.pairwise_cons.2 ⟨fun y hy => h7 _ List.mem_cons_self y hy, h6⟩
    ·intro x hx y hy
     rcases List.mem_cons.1 hy with rfl | hy
     ·have := logOK_spec hlog x hx
      unfold Later
      dsimp only
      rw [hm]
      exact this
     ·exact h7 x (List.mem_cons_of_mem _ hx) y hy
   ·cases h2
  ·cases h
theorem edgesOK_spec {i : Nat} : ∀ {l : List Edge}, edgesOK i l = true → ∀ e ∈ l, Region.binds .any e = true → e.on < i
 | [], _, e, he, _ => by cases he
 | e' :: l, h, e, he, hb => by
  simp only [edgesOK, Bool.and_eq_true, Bool.or_eq_true, Bool.not_eq_true'] at h
  rcases List.mem_cons.1 he with rfl | he
  ·rcases h.1 with h1 | h1
   ·rw [hb] at h1; cases h1
   ·exact Nat.le_of_ble_eq_true h1
  ·exact edgesOK_spec h.2 e he hb
theorem drawK_edges (hinl : E.inl = []) {K : St → Option R} {r : R} : ∀ {l : List Oper} {acc : List Nat} {s : St} {lg : List Pt}, drawK E ev ops l acc s lg K = some r → ∀ i o, l[i]? = some o → edgesOK (acc.length + i) o.after.toList = true
 | [], _, _, _, _, i, o, hi => by simp at hi
 | o' :: l, acc, s, lg, h, i, o, hi => by
  simp only [drawK] at h
  split at h
  ·rename_i he
   obtain ⟨s1, e, _, h2⟩ := opE_tr (inl := fun _ _ _ _ => none) hinl h
   split at h2
   ·cases i with
    | zero => simp at hi; subst hi; exact he
    | succ i =>
     have := drawK_edges hinl h2 i o (by simpa using hi)
     simpa [Nat.add_assoc, Nat.add_comm 1] using this
   ·cases h2
  ·cases h
theorem ancM_spec {acc : List Nat} {k : Nat} : ∀ {l : List Edge}, (ancM acc l).testBit k = true → ∃ e ∈ l, Region.binds .any e = true ∧ (k = e.on ∨ (acc.getD e.on 0).testBit k = true)
 | [], h => by simp [ancM] at h
 | e :: l, h => by
  simp only [ancM, Nat.testBit_or, Bool.or_eq_true] at h
  rcases h with h | h
  ·split at h
   ·rename_i hb
    simp only [Nat.testBit_or, Bool.or_eq_true] at h
    refine ⟨e, List.mem_cons_self, hb, ?_⟩
    rcases h with h | h
    ·rw [Nat.testBit_two_pow] at h
     exact .inl (by simpa using h : e.on = k).symm
    ·exact .inr h
   ·simp at h
  ·obtain ⟨e', h1, h2⟩ := ancM_spec h
   exact ⟨e', List.mem_cons_of_mem _ h1, h2⟩
theorem masks_spec : ∀ (l : List Oper) (acc : List Nat) (i : Nat) (o : Oper), l[i]? = some o → (∀ e ∈ o.after.toList, Region.binds .any e = true → e.on < acc.length + i) → ∀ k, ((masks l acc).getD (acc.length + i) 0).testBit k = true →
  ∃ e ∈ o.after.toList, Region.binds .any e = true ∧ (k = e.on ∨ ((masks l acc).getD e.on 0).testBit k = true)
 | [], _, i, o, h, _, _, _ => by simp at h
 | o' :: l, acc, 0, o, h, he, k, hk => by
  simp at h
  subst h
  simp only [masks, List.getD_eq_getElem?_getD, Nat.add_zero] at hk ⊢
  rw [masks_pre _ _ _ (by simp), List.getElem?_append_right (Nat.le_refl _)] at hk
  simp at hk
  obtain ⟨e, h1, h2, h3⟩ := ancM_spec hk
  refine ⟨e, by simpa using h1, h2, ?_⟩
  rcases h3 with h3 | h3
  ·exact .inl h3
  ·have hlt := he e h1 h2
   rw [masks_pre _ _ _ (by simp; omega), List.getElem?_append_left (by omega)]
   exact .inr (by simpa [List.getD_eq_getElem?_getD] using h3)
 | o' :: l, acc, i + 1, o, h, he, k, hk => by
  simp only [masks] at hk ⊢
  have e1 : acc.length + (i + 1) = (acc ++ [ancM acc o'.after.toList]).length + i := by simp; omega
  rw [e1] at hk he
  exact masks_spec l _ i o (by simpa using h) he k hk
theorem op1_ok {GB : Nat → Prop} {G : World → Prop} {w0 : World} {M Z0 : Nat → Prop} {γ0 : Nat → Value} {m : Nat} (henv : envOK P E = true) (hinl : E.inl = []) (hst : Stable GB G) (hG : G w0) (hGB : ∀ b, GB b → b < w0.heap.size ∧ ¬ M b) (hm : m ≤ 1000) (hev : EvOK P GB G E ev)
  {K : St → Option R} {r : R} {i : Nat} {a : Act} {w : World} (hoi : ops[i]? = some o) (h : opsK E ev inl ops [o] s K = some r) (hg : Good w0 M Z0 γ0 m s a w) {Q : Exit → Act → World → Prop} :
  wpOp P ops Q i (fun a w => ∃ s', K s' = some r ∧ Good w0 M Z0 γ0 m s' a w) a w := by
 have doit : ∀ s', stepK E ev inl s' o K = some r → Good w0 M Z0 γ0 m s' a w → o.wp P a w (fun a w => ∃ s', K s' = some r ∧ Good w0 M Z0 γ0 m s' a w) Q :=
  fun s' h1 h2 => stepK_ok henv hinl hst hG hGB hm hev h1 h2
 have skip : ∀ s' v, K (s'.setd o.dst (.lf .un)) = some r → Good w0 M Z0 γ0 m s' a w → v = undef → ∃ s', K s' = some r ∧ Good w0 M Z0 γ0 m s' (a.put o.dst v) w := by
  rintro s' v h1 ⟨⟨Z, γ, hi, hs, hγ⟩, hb, hd⟩ rfl
  exact ⟨_, h1, ⟨Z, γ, by rw [(setd_ob _ _ _).1]; exact hi, by rw [(setd_ob _ _ _).1]; exact setd_ok (b := s'.b) hs rfl, hγ⟩, by rw [(setd_ob _ _ _).2]; exact hb, by rw [Go.GV.put_defers]; exact hd⟩
 unfold wpOp
 simp only [hoi]
 simp only [opsK] at h
 cases hgd : o.guard with
 | none =>
  rw [hgd] at h
  have hw : Region.wanted o (yielded ops a.tmps) = true := by simp [Region.wanted, hgd]
  rw [if_pos hw]
  exact .inl (doit s h hg)
 | some jw =>
  obtain ⟨j, want⟩ := jw
  rw [hgd] at h
  dsimp only at h
  split at h
  ·rename_i gt hgt
   have hy := yielded_ok (tm := a.tmps) hgt
   obtain ⟨⟨Z, γ, hi, hs, hγ⟩, hb, hd⟩ := id hg
   have hslot := hs.ok gt
   split at h
   ·rename_i hsl
    rw [show s.sl.getD gt (.lf .u) = .lf .un from hsl] at hslot
    have hv : a.tmps.getD gt undef = undef := hslot
    have hw : Region.wanted o (yielded ops a.tmps) = false := by
     simp only [Region.wanted, hgd, hy, hv]
     rfl
    rw [hw]
    exact skip s _ h hg rfl
   ·rename_i c hsl
    rw [show s.sl.getD gt (.lf .u) = .lf (.v .bool c) from hsl] at hslot
    have hv : ∀ c : Bool, SlotOK w Z γ s.ob (.lf (.v .bool c)) (a.tmps.getD gt undef) → a.tmps.getD gt undef = .bool c := by
     intro c h
     simpa only [SlotOK, LfOK, Ty.Rep, List.cons.injEq, and_true] using h
    have hv := hv c hslot
    have hw : Region.wanted o (yielded ops a.tmps) = (some (show Bool from c) == some want) := by
     simp only [Region.wanted, hgd, hy, hv]
    have hgs : Good w0 M Z0 γ0 m (s.set gt (.lf (.v .bool c))) a w := ⟨⟨Z, γ, hi, setd_same hs hslot, hγ⟩, hb, hd⟩
    cases c with
    | true =>
     cases want with
     | true => rw [if_pos (by rw [hw]; rfl)]; exact .inl (doit _ h hgs)
     | false => rw [if_neg (by rw [hw]; decide)]; exact skip _ _ h hgs rfl
    | false =>
     cases want with
     | true => rw [if_neg (by rw [hw]; decide)]; exact skip _ _ h hgs rfl
     | false => rw [if_pos (by rw [hw]; rfl)]; exact .inl (doit _ h hgs)
   ·cases h
  ·cases h
theorem any_ok {GB : Nat → Prop} {G : World → Prop} {w0 : World} {M Z0 : Nat → Prop} {γ0 : Nat → Value} {m : Nat} (henv : envOK P E = true) (hinl : E.inl = []) (hst : Stable GB G) (hG : G w0) (hGB : ∀ b, GB b → b < w0.heap.size ∧ ¬ M b) (hm : m ≤ 1000) (hev : EvOK P GB G E ev)
  (r : R) {mk : Nat → Nat} (hmk : ∀ i o, ops[i]? = some o → ∀ k, (mk i).testBit k = true → ∃ e ∈ o.after.toList, Region.binds .any e = true ∧ (k = e.on ∨ (mk e.on).testBit k = true))
  (hed : ∀ i o, ops[i]? = some o → ∀ e ∈ o.after.toList, Region.binds .any e = true → e.on < i) {sn : St} {Q : Exit → Act → World → Prop} (hQ : ∀ a w, Good w0 M Z0 γ0 m sn a w → Q .normal a w) :
  ∀ (n : Nat) (p : List Pt), p.length = n → ∀ (listed : Array Bool) (s : St) (a : Act) (w : World), listed.size = ops.size → Path ev inl ops p s sn → p.Pairwise (Later mk ops) → p.Pairwise (fun x y => x.1 < y.1) → (∀ x ∈ p, ops[x.1]? = some x.2.1) →
   (∀ i, i < ops.size → (listed.getD i false = false ↔ i ∈ p.map (·.1))) → (∀ i, i < ops.size → listed.getD i false = true → ∀ k, (mk i).testBit k = true → listed.getD k false = true) →
   Good w0 M Z0 γ0 m s a w → wpAny P .any ops Q n listed a w := by
 have key : ∀ (listed : Array Bool), listed.size = ops.size → ∀ i, i < ops.size → listed.getD i true = listed.getD i false := by
  intro listed hsz i hi
  simp [Array.getD_eq_getD_getElem?, hsz, hi]
 intro n
 induction n with
 | zero =>
  intro p hp listed s a w hsz hpath _ _ _ hlist _ hg
  have : p = [] := List.eq_nil_of_length_eq_zero hp
  subst this
  have e : sn = s := hpath
  subst e
  refine ⟨?_, hQ a w hg⟩
  refine List.eq_nil_iff_forall_not_mem.2 fun j hj => ?_
  obtain ⟨h0, o, ho, _⟩ := mem_ready.1 hj
  have hlt := (Array.getElem?_eq_some_iff.1 ho).1
  rw [key listed hsz j hlt] at h0
  have := (hlist j hlt).1 h0
  simp at this
 | succ n ih =>
  intro p hp listed s a w hsz hpath hpw hsort hops hlist hdc hg
  refine ⟨fun hr => ?_, fun i hi => ?_⟩
  ·exfalso
   cases p with
   | nil => simp at hp
   | cons x p =>
    have hx := hops x List.mem_cons_self
    have hlt := (Array.getElem?_eq_some_iff.1 hx).1
    have : x.1 ∈ Region.ready .any ops listed := by
     refine mem_ready.2 ⟨?_, x.2.1, hx, fun e he hb => ?_⟩
     ·rw [key listed hsz _ hlt]; exact (hlist x.1 hlt).2 (by simp)
     ·have h1 := hed x.1 x.2.1 hx e (by simpa using he) hb
      cases hl : listed.getD e.on false with
      | true => rfl
      | false =>
       have h2 := (hlist e.on (by omega)).1 hl
       simp only [List.map_cons, List.mem_cons, List.mem_map] at h2
       rcases h2 with h2 | ⟨y, hy, h2⟩
       ·omega
       ·have := (List.pairwise_cons.1 hsort).1 y hy
        omega
    rw [hr] at this
    cases this
  ·obtain ⟨h0, o, ho, hall⟩ := mem_ready.1 hi
   have hlt := (Array.getElem?_eq_some_iff.1 ho).1
   rw [key listed hsz i hlt] at h0
   have hmem := (hlist i hlt).1 h0
   obtain ⟨x, hx, rfl⟩ := List.mem_map.1 hmem
   obtain ⟨l, l', rfl⟩ := List.append_of_mem hx
   have hox : x.2.1 = o := Option.some.inj ((hops x hx).symm.trans ho)
   have hanc : ∀ k, (mk x.1).testBit k = true → listed.getD k false = true := by
    intro k hk
    obtain ⟨e, he, hb, h1⟩ := hmk x.1 o ho k hk
    have h2 := hall e (by simpa using he) hb
    rcases h1 with rfl | h1
    ·exact h2
    ·have h3 := hed x.1 o ho e he hb
     exact hdc e.on (by omega) h2 k h1
   obtain ⟨hp1, hp2, hp3⟩ := List.pairwise_append.1 hpw
   obtain ⟨hs1, hs2, hs3⟩ := List.pairwise_append.1 hsort
   have hfree : ∀ y ∈ l, relOK y.2.2 x.2.2 = true ∧ Oper.apart ops y.2.1 x.2.1 = true := by
    intro y hy
    rcases hp3 y hy x List.mem_cons_self with h1 | h1
    ·exfalso
     have h2 := hanc y.1 h1
     have h3 := hops y (List.mem_append_left _ hy)
     have h4 := (hlist y.1 (Array.getElem?_eq_some_iff.1 h3).1).2 (List.mem_map.2 ⟨y, List.mem_append_left _ hy, rfl⟩)
     rw [h2] at h4
     cases h4
    ·exact h1
   obtain ⟨s1, htr, hrest⟩ := path_move hfree hpath
   have hto := htr.to
   rw [hox] at hto
   classical
   have h1 : opsK E ev inl ops [o] s (fun s' => if s' = s1 then some r else none) = some r := by rw [hto, if_pos rfl]
   refine wpOp_mono (fun a' w' hh => ?_) (op1_ok (Q := Q) henv hinl hst hG hGB hm hev ho h1 hg)
   obtain ⟨s', h2, h3⟩ := hh
   have : s' = s1 := by
    by_cases e : s' = s1
    ·exact e
    ·rw [if_neg e] at h2; cases h2
   subst this
   have hnd : ∀ y ∈ l ++ l', y.1 ≠ x.1 := by
    intro y hy e
    rcases List.mem_append.1 hy with hy | hy
    ·have := hs3 y hy x List.mem_cons_self; omega
    ·have := (List.pairwise_cons.1 hs2).1 y hy; omega
   have hset : ∀ j, (listed.setIfInBounds x.1 true).getD j false = if x.1 = j then true else listed.getD j false := by
    intro j
    simp only [Array.getD_eq_getD_getElem?, Array.getElem?_setIfInBounds]
    by_cases hj : x.1 = j
    ·subst hj
     simp [hsz, hlt]
    ·simp [hj]
   refine ih (l ++ l') (by simp at hp ⊢; omega) _ s' a' w' (by simpa using hsz) hrest ?_ ?_ (fun y hy => hops y ?_) (fun j hj => ?_) (fun j hj hl k hk => ?_) h3
   ·exact List.pairwise_append.2 ⟨hp1, (List.pairwise_cons.1 hp2).2, fun y hy z hz => hp3 y hy z (List.mem_cons_of_mem _ hz)⟩
   ·exact List.pairwise_append.2 ⟨hs1, (List.pairwise_cons.1 hs2).2, fun y hy z hz => hs3 y hy z (List.mem_cons_of_mem _ hz)⟩
   ·rcases List.mem_append.1 hy with hy | hy
    ·exact List.mem_append_left _ hy
    ·exact List.mem_append_right _ (List.mem_cons_of_mem _ hy)
   ·rw [hset]
    by_cases hjx : x.1 = j
    ·subst hjx
     simp only [if_true]
     constructor
     ·intro h; cases h
     ·intro h
      obtain ⟨y, hy, e⟩ := List.mem_map.1 h
      exact absurd e (hnd y hy)
    ·rw [if_neg hjx, hlist j hj]
     simp only [List.map_append, List.map_cons, List.mem_append, List.mem_cons]
     constructor
     ·rintro (h | h | h)
      ·exact .inl h
      ·exact absurd h.symm hjx
      ·exact .inr h
     ·rintro (h | h)
      ·exact .inl h
      ·exact .inr (.inr h)
   ·rw [hset] at hl ⊢
    split
    ·rfl
    ·by_cases hjx : x.1 = j
     ·subst hjx; exact hanc k hk
     ·rw [if_neg hjx] at hl; exact hdc j hj hl k hk
theorem draw_ok {GB : Nat → Prop} {G : World → Prop} {w0 : World} {M Z0 : Nat → Prop} {γ0 : Nat → Value} {m : Nat} (henv : envOK P E = true) (hmix : P.follows .mixedOrders = true) (hinl : E.inl = []) (hst : Stable GB G) (hG : G w0) (hGB : ∀ b, GB b → b < w0.heap.size ∧ ¬ M b) (hm : m ≤ 1000) (hev : EvOK P GB G E ev)
  {K : St → Option R} {r : R} {id : Nat} {a : Act} {w : World} (h : drawK E ev ops ops.toList [] s [] K = some r) (hg : Good w0 M Z0 γ0 m s a w) :
  (Code.region id ops true).wp P (fun e a w => e = .normal ∧ ∃ s', K s' = some r ∧ Good w0 M Z0 γ0 m s' a w) a w := by
 obtain ⟨p, sn, h1, h2, h3, h4, _⟩ := drawK_path (inl := fun _ _ _ _ => none) hinl h
 have hedges := drawK_edges hinl h
 have hlen : p.length = ops.size := by
  have := congrArg List.length h3
  simpa using this
 have hget : ∀ x ∈ p, ops[x.1]? = some x.2.1 := by
  intro x hx
  have h5 : (x.1, x.2.1) ∈ p.map (fun x => (x.1, x.2.1)) := List.mem_map.2 ⟨x, hx, rfl⟩
  rw [h3] at h5
  obtain ⟨j, hj⟩ := List.getElem?_of_mem h5
  rw [List.getElem?_zip_eq_some] at hj
  obtain ⟨hj1, hj2⟩ := hj
  have hjl := (List.getElem?_eq_some_iff.1 hj2).1
  rw [List.getElem?_range' hjl] at hj1
  simp at hj1
  rw [← hj1]
  simpa using hj2
 have hidx : p.map (·.1) = List.range' 0 ops.size := by
  have := congrArg (List.map Prod.fst) h3
  rw [List.map_map] at this
  rw [show (p.map (·.1)) = p.map (Prod.fst ∘ fun x => (x.1, x.2.1)) from rfl, this, List.map_fst_zip (by simp)]
  simp
 have hed : ∀ i o, ops[i]? = some o → ∀ e ∈ o.after.toList, Region.binds .any e = true → e.on < i := by
  intro i o ho e he hb
  have := hedges i o (by simpa using ho)
  simp only [List.length_nil, Nat.zero_add] at this
  exact edgesOK_spec this e he hb
 refine wp_region_any hmix ?_
 have hg' : Good w0 M Z0 γ0 m s a { w with drawn := w.drawn + 1 } := by
  obtain ⟨⟨Z, γ, hi, hs, hγ⟩, hb, hd⟩ := hg
  have hst : Stay w { w with drawn := w.drawn + 1 } Z Z := Stay.of_block fun k hk => ⟨hk, rfl⟩
  exact ⟨⟨Z, γ, ⟨⟨hi.frm.os, hi.frm.tape, hi.frm.output, hi.frm.size, hi.frm.block⟩, hi.zlt, hi.zold, fun n o ho => ObOK.keep (hi.obs n o ho) hst (fun _ _ => rfl) rfl (fun _ _ => rfl), hi.disj, hi.own⟩,
   ⟨hs.len, fun i => SlotOK.keep hst (hs.ok i) fun n _ => ⟨rfl, fun E t xs hx => ⟨E, xs, hx, rfl⟩⟩⟩, hγ⟩, hb, hd⟩
 rw [← hlen]
 refine any_ok (mk := fun i => (masks ops.toList []).getD i 0) henv hinl hst hG hGB hm hev r (fun i o ho k hk => ?_) hed (sn := sn) (fun a w hg => ⟨rfl, sn, h2, hg⟩) p.length p rfl _ s a _ (by simp [hlen]) h1 h4 ?_ hget (fun i hi => ?_) (fun i hi hl => ?_) hg'
 ·have := masks_spec ops.toList [] i o (by simpa using ho) (fun e he hb => by simpa using hed i o ho e he hb) k (by simpa using hk)
  simpa using this
 ·have : (p.map (·.1)).Pairwise (· < ·) := by rw [hidx]; exact List.pairwise_lt_range' 
  exact List.pairwise_map.1 this
 ·rw [hidx]
  simp [hi, hlen]
 ·simp [hlen, hi] at hl
end
end Go.GV
namespace Go.GV
inductive ItOK : List It → List Item → Prop
 | nil : ItOK [] []
 | code {l k x a} : ItOK l k → ItOK (.c x a :: l) (.code x :: k)
 | loop {l k y a} : ItOK l k → ItOK (.c (.loop y) a :: l) (.inLoop y :: k)
 | endB {l k id} : ItOK l k → ItOK (.endB id :: l) (.inBlock id :: k)
def Pos (T : List (Nat × List It)) : List It → Prop
 | [] => True
 | .c x a :: l => (∀ p ∈ places x a l, p ∈ T) ∧ a.wf = true ∧ Pos T l
 | .endB _ :: l => Pos T l
theorem exit_ok {id : Nat} : ∀ {l l' : List It} {k : List Item}, ItOK l k → exitT id l = some l' → ∃ k', exitTo id k = some k' ∧ ItOK l' k'
 | _, _, _, .nil, h => by cases h
 | _, _, _, .code h0, h => by
  simp only [exitT] at h
  obtain ⟨k', h1, h2⟩ := exit_ok h0 h
  exact ⟨k', by simpa [exitTo] using h1, h2⟩
 | _, _, _, .loop h0, h => by
  simp only [exitT] at h
  obtain ⟨k', h1, h2⟩ := exit_ok h0 h
  exact ⟨k', by simpa [exitTo] using h1, h2⟩
 | _, _, _, .endB (l := l) (k := k) (id := j) h0, h => by
  simp only [exitT] at h
  by_cases hj : Nat.beq j id = true
  ·rw [if_pos hj] at h
   cases h
   exact ⟨k, by simp [exitTo, beqt.1 hj], h0⟩
  ·rw [if_neg hj] at h
   obtain ⟨k', h1, h2⟩ := exit_ok h0 h
   have hne : ¬ j = id := fun e => hj (beqt.2 e)
   exact ⟨k', by simp [exitTo, hne, h1], h2⟩
theorem exit_pos {T : List (Nat × List It)} {id : Nat} : ∀ {l l' : List It}, Pos T l → exitT id l = some l' → Pos T l'
 | [], _, _, h => by cases h
 | .c x a :: l, _, hp, h => exit_pos (l := l) hp.2.2 (by simpa only [exitT] using h)
 | .endB j :: l, _, hp, h => by
  simp only [exitT] at h
  split at h
  ·cases h; exact hp
  ·exact exit_pos (l := l) hp h
section
variable {P : Program} {E : Env} {GB : Nat → Prop} {G : World → Prop} {w0 : World} {M Z0 : Nat → Prop} {γ0 : Nat → Value} {m : Nat} {b : Frame} {cs : List Frame}
def Ends (P : Program) (b : Frame) (cs : List Frame) (Post : Act → World → Prop) (k : List Item) (a : Act) (w : World) : Prop :=
 ∃ a' w' todo, Steps P (lone (b.at a k) cs w) (lone { b.at a' todo with mode := .returning } cs w') ∧ Post a' w'
theorem Ends.head {Post : Act → World → Prop} {k k' : List Item} {a : Act} {w : World} (h : Go.step P (lone (b.at a k) cs w) = .next (lone (b.at a k') cs w)) (h' : Ends P b cs Post k' a w) : Ends P b cs Post k a w := by
 obtain ⟨a', w', todo, h1, h2⟩ := h'
 exact ⟨a', w', todo, .head h h1, h2⟩
theorem Ends.steps {Post : Act → World → Prop} {k k' : List Item} {a a1 : Act} {w w1 : World} (h : Steps P (lone (b.at a k) cs w) (lone (b.at a1 k') cs w1)) (h' : Ends P b cs Post k' a1 w1) : Ends P b cs Post k a w := by
 obtain ⟨a', w', todo, h1, h2⟩ := h'
 exact ⟨a', w', todo, h.trans h1, h2⟩
theorem run_ok (henv : envOK P E = true) (hinl : E.inl = []) (hmix : P.follows .mixedOrders = true) (hst : Stable GB G) (hG : G w0) (hGB : ∀ b, GB b → b < w0.heap.size ∧ ¬ M b) (hm : m ≤ 1000) {R : Type} {ev : Ev E} (hev : EvOK P GB G E ev) {mm : Nat}
  {go : Nat → St → Option R} {fi : St → Option R} {r : R} {Post : Act → World → Prop} {T : List (Nat × List It)}
  (hfi : ∀ s a w, fi s = some r → Good w0 M Z0 γ0 m s a w → Post a w)
  (hgo : ∀ i s l, (i, l) ∈ T → go i s = some r → Pos T l → ∀ a w, Good w0 M Z0 γ0 m s a w → ∀ k, ItOK l k → Ends P b cs Post k a w)
  (hpl : ∀ i l, (i, l) ∈ T → Pos T l) (hat : ∀ s k s' a w, atPlace s mm k = some s' → Good w0 M Z0 γ0 m s a w → Good w0 M Z0 γ0 m s' a w) :
  ∀ (n : Nat) (l : List It) (k : List Item) (s : St) (a : Act) (w : World), run E ev mm n go fi l s = some r → ItOK l k → Pos T l → Good w0 M Z0 γ0 m s a w → Ends P b cs Post k a w
 | 0, l, k, s, a, w, h, _, _, _ => by cases l <;> cases h
 | n + 1, [], k, s, a, w, h, hk, hp, hg => by
  cases hk
  exact ⟨a, w, [], .one step_end, hfi s a w h hg⟩
 | n + 1, .endB id :: l, k, s, a, w, h, hk, hp, hg => by
  cases hk with
  | endB hk => exact .head step_inBlock (run_ok henv hinl hmix hst hG hGB hm hev hfi hgo hpl hat n l _ s a w h hk hp hg)
 | n + 1, .c x an :: l, k, s, a, w, h, hk, hp, hg => by
  have ih := run_ok henv hinl hmix hst hG hGB hm hev hfi hgo hpl hat n
  obtain ⟨hp1, hwf, hp2⟩ := hp
  cases an with
  | at_ i kp an =>
   simp only [run] at h
   split at h
   ·rename_i s' hs'
    have hg' := hat s kp s' a w hs' hg
    cases x with
    | loop y =>
     have hmem : (i, .c y an :: .c (.loop y) (.at_ i kp an) :: l) ∈ T := hp1 _ (by simp only [places]; exact List.mem_cons_self)
     cases hk with
     | code hk => exact .head step_loop (hgo i s' _ hmem h (hpl _ _ hmem) a w hg' _ (.code (.loop hk)))
     | loop hk => exact .head step_inLoop (hgo i s' _ hmem h (hpl _ _ hmem) a w hg' _ (.code (.loop hk)))
    | _ =>
     cases hk with
     | code hk =>
      have hmem := hp1 (i, .c _ an :: l) (by simp only [places]; exact List.mem_cons_self)
      exact hgo i s' _ hmem h (hpl _ _ hmem) a w hg' _ (.code hk)
   ·cases h
  | no =>
   simp only [run] at h
   cases x with
   | skip => cases hk with | code hk => exact .head step_skip (ih l _ s a w h hk hp2 hg)
   | seq x y =>
    cases hk with
    | code hk => exact .head step_seq (ih _ _ s a w h (.code (.code hk)) ⟨fun p hp => hp1 p (by simp only [places]; exact List.mem_append_left _ hp), rfl, fun p hp => hp1 p (by simp only [places]; exact List.mem_append_right _ hp), rfl, hp2⟩ hg)
   | cond c x y =>
    cases hk with
    | code hk =>
     have hx : Pos T (.c x (Ann.l .no) :: l) := ⟨fun p hp => hp1 p (by simp only [places]; exact List.mem_append_left _ hp), rfl, hp2⟩
     have hy : Pos T (.c y (Ann.r .no) :: l) := ⟨fun p hp => hp1 p (by simp only [places]; exact List.mem_append_right _ hp), rfl, hp2⟩
     dsimp only at h
     split at h
     ·rename_i bv hc
      obtain ⟨⟨Z, γ, hi, hs, hγ⟩, hb, hd⟩ := id hg
      have hcv := opnd_bool hc hs
      cases c with
      | tmp t =>
       have hgs : Good w0 M Z0 γ0 m (s.set t (.lf (.v .bool bv))) a w := ⟨⟨Z, γ, hi, setd_same hs (by
        have h1 : a.tmps.getD t undef = .bool bv := hcv
        rw [h1]; exact rfl), hγ⟩, hb, hd⟩
       cases bv with
       | true => exact .head (step_cond (t := true) hcv) (ih _ _ _ a w h (.code hk) hx hgs)
       | false => exact .head (step_cond (t := false) hcv) (ih _ _ _ a w h (.code hk) hy hgs)
      | const v =>
       cases bv with
       | true => exact .head (step_cond (t := true) hcv) (ih _ _ _ a w h (.code hk) hx hg)
       | false => exact .head (step_cond (t := false) hcv) (ih _ _ _ a w h (.code hk) hy hg)
      | global g => simp [St.opnd] at hc
      | func f => simp [St.opnd] at hc
     ·cases h
   | block id x =>
    cases hk with
    | code hk => exact .head step_block (ih _ _ s a w h (.code (.endB hk)) ⟨fun p hp => hp1 p (by simp only [places]; exact hp), rfl, hp2⟩ hg)
   | exit id =>
    cases hk with
    | code hk =>
     dsimp only at h
     split at h
     ·rename_i l' hl'
      obtain ⟨k', h1, h2⟩ := exit_ok hk hl'
      exact .head (step_exit h1) (ih _ _ s a w h h2 (exit_pos hp2 hl') hg)
     ·cases h
   | ret =>
    cases hk with
    | code hk => exact ⟨a, w, _, .one step_ret, hfi s a w h hg⟩
   | region id ops draw =>
    cases hk with
    | code hk =>
     dsimp only at h
     cases draw with
     | true =>
      rw [if_pos rfl] at h
      obtain ⟨e, a', w', ⟨rfl, s', hs', hg'⟩, harr⟩ := draw_ok (id := id) henv hmix hinl hst hG hGB hm hev h hg b _ cs
      exact .steps harr (ih _ _ s' a' w' hs' hk hp2 hg')
     | false =>
      rw [if_neg (by decide)] at h
      have hw := opsK_ok henv hinl hst hG hGB hm hev ops.toList 0 s a w (by simp) (by simp) h hg
      rw [Array.length_toList, ← List.range_eq_range'] at hw
      obtain ⟨e, a', w', ⟨rfl, s', hs', hg'⟩, harr⟩ := wp_region (id := id) hw b _ cs
      exact .steps harr (ih _ _ s' a' w' hs' hk hp2 hg')
   | _ => cases h
  | two a1 a2 =>
   simp only [Ann.wf, Bool.and_eq_true] at hwf
   simp only [run] at h
   cases x with
   | skip => cases hk with | code hk => exact .head step_skip (ih l _ s a w h hk hp2 hg)
   | seq x y =>
    cases hk with
    | code hk => exact .head step_seq (ih _ _ s a w h (.code (.code hk)) ⟨fun p hp => hp1 p (by simp only [places]; exact List.mem_append_left _ hp), hwf.1, fun p hp => hp1 p (by simp only [places]; exact List.mem_append_right _ hp), hwf.2, hp2⟩ hg)
   | cond c x y =>
    cases hk with
    | code hk =>
     have hx : Pos T (.c x (Ann.l (.two a1 a2)) :: l) := ⟨fun p hp => hp1 p (by simp only [places]; exact List.mem_append_left _ hp), hwf.1, hp2⟩
     have hy : Pos T (.c y (Ann.r (.two a1 a2)) :: l) := ⟨fun p hp => hp1 p (by simp only [places]; exact List.mem_append_right _ hp), hwf.2, hp2⟩
     dsimp only at h
     split at h
     ·rename_i bv hc
      obtain ⟨⟨Z, γ, hi, hs, hγ⟩, hb, hd⟩ := id hg
      have hcv := opnd_bool hc hs
      cases c with
      | tmp t =>
       have hgs : Good w0 M Z0 γ0 m (s.set t (.lf (.v .bool bv))) a w := ⟨⟨Z, γ, hi, setd_same hs (by
        have h1 : a.tmps.getD t undef = .bool bv := hcv
        rw [h1]; exact rfl), hγ⟩, hb, hd⟩
       cases bv with
       | true => exact .head (step_cond (t := true) hcv) (ih _ _ _ a w h (.code hk) hx hgs)
       | false => exact .head (step_cond (t := false) hcv) (ih _ _ _ a w h (.code hk) hy hgs)
      | const v =>
       cases bv with
       | true => exact .head (step_cond (t := true) hcv) (ih _ _ _ a w h (.code hk) hx hg)
       | false => exact .head (step_cond (t := false) hcv) (ih _ _ _ a w h (.code hk) hy hg)
      | global g => simp [St.opnd] at hc
      | func f => simp [St.opnd] at hc
     ·cases h
   | block id x =>
    cases hk with
    | code hk => exact .head step_block (ih _ _ s a w h (.code (.endB hk)) ⟨fun p hp => hp1 p (by simp only [places]; exact hp), hwf.1, hp2⟩ hg)
   | exit id =>
    cases hk with
    | code hk =>
     dsimp only at h
     split at h
     ·rename_i l' hl'
      obtain ⟨k', h1, h2⟩ := exit_ok hk hl'
      exact .head (step_exit h1) (ih _ _ s a w h h2 (exit_pos hp2 hl') hg)
     ·cases h
   | ret =>
    cases hk with
    | code hk => exact ⟨a, w, _, .one step_ret, hfi s a w h hg⟩
   | region id ops draw =>
    cases hk with
    | code hk =>
     dsimp only at h
     cases draw with
     | true =>
      rw [if_pos rfl] at h
      obtain ⟨e, a', w', ⟨rfl, s', hs', hg'⟩, harr⟩ := draw_ok (id := id) henv hmix hinl hst hG hGB hm hev h hg b _ cs
      exact .steps harr (ih _ _ s' a' w' hs' hk hp2 hg')
     | false =>
      rw [if_neg (by decide)] at h
      have hw := opsK_ok henv hinl hst hG hGB hm hev ops.toList 0 s a w (by simp) (by simp) h hg
      rw [Array.length_toList, ← List.range_eq_range'] at hw
      obtain ⟨e, a', w', ⟨rfl, s', hs', hg'⟩, harr⟩ := wp_region (id := id) hw b _ cs
      exact .steps harr (ih _ _ s' a' w' hs' hk hp2 hg')
   | _ => cases h
theorem wf_l {a : Ann} (h : a.wf = true) : a.l.wf = true := by
 cases a with
 | no => rfl
 | two a b => simp only [Ann.wf, Bool.and_eq_true] at h; exact h.1
 | at_ i k a => exact h
theorem wf_r {a : Ann} (h : a.wf = true) : a.r.wf = true := by
 cases a with
 | no => rfl
 | two a b => simp only [Ann.wf, Bool.and_eq_true] at h; exact h.2
 | at_ i k a => rfl
def Ann.isAt : Ann → Bool
 | .at_ _ _ _ => true
 | _ => false
theorem places_seq {x y : Code} {a : Ann} {l : List It} (h : a.isAt = false) : places (.seq x y) a l = places x a.l (.c y a.r :: l) ++ places y a.r l := by cases a <;> first | rfl | cases h
theorem places_cond {c : Operand} {x y : Code} {a : Ann} {l : List It} (h : a.isAt = false) : places (.cond c x y) a l = places x a.l l ++ places y a.r l := by cases a <;> first | rfl | cases h
theorem places_block {id : Nat} {x : Code} {a : Ann} {l : List It} (h : a.isAt = false) : places (.block id x) a l = places x a.l (.endB id :: l) := by cases a <;> first | rfl | cases h
theorem wf_at {i : Nat} {k : List (Nat × Keep)} {a : Ann} (h : (Ann.at_ i k a).wf = true) : a.isAt = false ∧ a.wf = true := by
 simp only [Ann.wf, Bool.and_eq_true] at h
 refine ⟨?_, h.2⟩
 cases a with
 | at_ _ _ _ => cases h.1
 | _ => rfl
theorem places_pos {T : List (Nat × List It)} : ∀ (x : Code) (a : Ann) (l : List It), a.wf = true → (∀ p ∈ places x a l, p ∈ T) → Pos T l → ∀ i l', (i, l') ∈ places x a l → Pos T l' := by
 intro x
 induction x with
 | seq x y ihx ihy =>
  intro a l hwf hT hl i l' hm
  have body : ∀ b : Ann, b.wf = true → b.isAt = false → (∀ p ∈ places (.seq x y) b l, p ∈ T) → (i, l') ∈ places (.seq x y) b l → Pos T l' := by
   intro b hb hna hT hm
   rw [places_seq hna] at hT hm
   have hy : Pos T (.c y b.r :: l) := ⟨fun p hp => hT p (List.mem_append_right _ hp), wf_r hb, hl⟩
   rcases List.mem_append.1 hm with hm | hm
   ·exact ihx b.l _ (wf_l hb) (fun p hp => hT p (List.mem_append_left _ hp)) hy i l' hm
   ·exact ihy b.r l (wf_r hb) (fun p hp => hT p (List.mem_append_right _ hp)) hl i l' hm
  cases a with
  | at_ j k b =>
   obtain ⟨hna, hb⟩ := wf_at hwf
   have e : places (.seq x y) (.at_ j k b) l = (j, .c (.seq x y) b :: l) :: places (.seq x y) b l := by rw [places_seq hna]; rfl
   rw [e] at hT hm
   rcases List.mem_cons.1 hm with hm | hm
   ·cases hm; exact ⟨fun p hp => hT p (List.mem_cons_of_mem _ hp), hb, hl⟩
   ·exact body b hb hna (fun p hp => hT p (List.mem_cons_of_mem _ hp)) hm
  | no => exact body _ hwf rfl hT hm
  | two a1 a2 => exact body _ hwf rfl hT hm
 | cond c x y ihx ihy =>
  intro a l hwf hT hl i l' hm
  have body : ∀ b : Ann, b.wf = true → b.isAt = false → (∀ p ∈ places (.cond c x y) b l, p ∈ T) → (i, l') ∈ places (.cond c x y) b l → Pos T l' := by
   intro b hb hna hT hm
   rw [places_cond hna] at hT hm
   rcases List.mem_append.1 hm with hm | hm
   ·exact ihx b.l _ (wf_l hb) (fun p hp => hT p (List.mem_append_left _ hp)) hl i l' hm
   ·exact ihy b.r l (wf_r hb) (fun p hp => hT p (List.mem_append_right _ hp)) hl i l' hm
  cases a with
  | at_ j k b =>
   obtain ⟨hna, hb⟩ := wf_at hwf
   have e : places (.cond c x y) (.at_ j k b) l = (j, .c (.cond c x y) b :: l) :: places (.cond c x y) b l := by rw [places_cond hna]; rfl
   rw [e] at hT hm
   rcases List.mem_cons.1 hm with hm | hm
   ·cases hm; exact ⟨fun p hp => hT p (List.mem_cons_of_mem _ hp), hb, hl⟩
   ·exact body b hb hna (fun p hp => hT p (List.mem_cons_of_mem _ hp)) hm
  | no => exact body _ hwf rfl hT hm
  | two a1 a2 => exact body _ hwf rfl hT hm
 | block id x ihx =>
  intro a l hwf hT hl i l' hm
  have body : ∀ b : Ann, b.wf = true → b.isAt = false → (∀ p ∈ places (.block id x) b l, p ∈ T) → (i, l') ∈ places (.block id x) b l → Pos T l' := by
   intro b hb hna hT hm
   rw [places_block hna] at hT hm
   exact ihx b.l _ (wf_l hb) hT hl i l' hm
  cases a with
  | at_ j k b =>
   obtain ⟨hna, hb⟩ := wf_at hwf
   have e : places (.block id x) (.at_ j k b) l = (j, .c (.block id x) b :: l) :: places (.block id x) b l := by rw [places_block hna]; rfl
   rw [e] at hT hm
   rcases List.mem_cons.1 hm with hm | hm
   ·cases hm; exact ⟨fun p hp => hT p (List.mem_cons_of_mem _ hp), hb, hl⟩
   ·exact body b hb hna (fun p hp => hT p (List.mem_cons_of_mem _ hp)) hm
  | no => exact body _ hwf rfl hT hm
  | two a1 a2 => exact body _ hwf rfl hT hm
 | loop x ihx =>
  intro a l hwf hT hl i l' hm
  cases a with
  | at_ j k b =>
   obtain ⟨hna, hb⟩ := wf_at hwf
   have e : places (.loop x) (.at_ j k b) l = (j, .c x b :: .c (.loop x) (.at_ j k b) :: l) :: places x b (.c (.loop x) (.at_ j k b) :: l) := rfl
   have hp : Pos T (.c (.loop x) (.at_ j k b) :: l) := ⟨hT, hwf, hl⟩
   rw [e] at hT hm
   rcases List.mem_cons.1 hm with hm | hm
   ·cases hm; exact ⟨fun p hp => hT p (List.mem_cons_of_mem _ hp), hb, hp⟩
   ·exact ihx b _ hb (fun p hp => hT p (List.mem_cons_of_mem _ hp)) hp i l' hm
  | no => simp [places] at hm
  | two a1 a2 => simp [places] at hm
 | _ =>
  intro a l hwf hT hl i l' hm
  cases a with
  | at_ j k b =>
   obtain ⟨hna, hb⟩ := wf_at hwf
   simp only [places, List.mem_singleton, Prod.mk.injEq] at hm
   obtain ⟨_, rfl⟩ := hm
   refine ⟨fun p hp => ?_, hb, hl⟩
   cases b <;> first | (simp [places] at hp; done) | cases hna
  | no => simp [places] at hm
  | two a1 a2 => simp [places] at hm
end
end Go.GV
namespace Go.GV
section
variable {w w0 : World} {M Z0 Z : Nat → Prop} {γ γ' γ0 : Nat → Value} {m : Nat} {s s' : St} {a : Act}
theorem All2.set_left {α β : Type} {R : α → β → Prop} : ∀ {l : List α} {m : List β} {j : Nat} {x : α} {v : β}, All2 R l m → m[j]? = some v → R x v → All2 R (l.set j x) m
 | [], [], _, _, _, _, hv, _ => by simp at hv
 | a :: l, b :: m, 0, x, v, h, hv, hx => by
  simp only [List.getElem?_cons_zero, Option.some.injEq] at hv
  subst hv
  exact ⟨hx, h.2⟩
 | a :: l, b :: m, j + 1, x, v, h, hv, hx => by
  simp only [List.getElem?_cons_succ] at hv
  exact ⟨h.1, All2.set_left h.2 hv hx⟩
 | [], _ :: _, _, _, _, h, _, _ => h.elim
 | _ :: _, [], _, _, _, h, _, _ => h.elim
theorem prep_ok (hm : m ≤ 1000) {n i : Nat} {k : Keep} (hn : 1000 ≤ n) (h : prep s n i k = some s') (hg : Good w0 M Z0 γ0 m s a w) : Good w0 M Z0 γ0 m s' a w := by
 obtain ⟨⟨Z, γ, hi, hs, hγ⟩, hb, hd⟩ := id hg
 cases k with
 | as => simp only [prep] at h; cases h; exact hg
 | frz =>
  simp only [prep] at h
  split at h
  ·rename_i l hl
   cases h
   obtain ⟨Z', _, h2, h3⟩ := frzAll_ok l hi hs
   exact ⟨⟨Z', γ, h2, h3, hγ⟩, by rw [frzAll_b]; exact hb, hd⟩
  ·cases h
 | val t =>
  simp only [prep] at h
  split at h
  ·rename_i c hc
   split at h
   ·rename_i c' hc'
    split at h
    ·rename_i x hx
     cases h
     obtain ⟨Z', _, h2, h3⟩ := frzAll_ok [c] hi hs
     have hsl := h3.ok i
     rw [show (s.frzAll [c]).sl.getD i (.lf .u) = .lf c' from hc'] at hsl
     exact ⟨⟨Z', γ, h2, setd_same h3 (as_ok hx hsl), hγ⟩, by show 1000 ≤ (s.frzAll [c]).b; rw [frzAll_b]; exact hb, hd⟩
    ·cases h
   ·cases h
  ·cases h
 | own e t =>
  simp only [prep] at h
  split at h
  ·rename_i hc
   split at h
   ·rename_i hf
    cases h
    have hmk := make_ok (w' := w) (N := fun _ => False) (v := .slice none 0 0) (b := .row e t []) hi hs hf (Frm.refl _ _) (fun _ _ h => h) (fun _ hn => hn.elim)
     ⟨[], by rw [upd_self]; exact World.ownsRow_nil w 0 e t.sz, rfl⟩ (fun k hk => by cases hk)
    have hsl := hs.ok i
    rw [show s.sl.getD i (.lf .u) = .lf .nl from hc] at hsl
    exact ⟨⟨Z, _, hmk.1, setd_same hmk.2 ⟨by rw [upd_self]; exact hsl, by rw [upd_self]; exact ⟨_, _, _, rfl⟩⟩, fun j hj => (upd_ne (by omega)).trans (hγ j hj)⟩, hb, hd⟩
   ·cases h
  ·cases h; exact hg
  ·rename_i r k hc
   split at h
   ·rename_i xs hx
    split at h
    ·rename_i hf
     cases h
     have hlk := rowAt_ok hx
     obtain ⟨cs, how, hrl⟩ := hi.obs r _ hlk
     have hsl := hs.ok i
     rw [show s.sl.getD i (.lf .u) = .lf (.oh r k) from hc] at hsl
     obtain ⟨A, n', cp, h3, h4, h5, h6⟩ := id hsl
     rw [h3] at how
     have hn' : n' = xs.length := by
      rcases how.2 with ⟨e1, e2⟩ | ⟨_, _, _, e1, _⟩
      ·cases e1; exact e2.symm
      ·cases e1; rfl
     subst hn'
     have hmk := make_ok (w' := w) (N := fun k' => blkV (γ r) = some k') (ob1 := del s.ob r) (v := .slice A k.toNat cp) (b := .row e t (xs.take k.toNat)) hi hs hf ((Frm.refl (fun _ => False) w).mono fun _ _ h => h.elim)
      (fun n b hn => by
       rw [look_del] at hn
       by_cases hrn : r = n
       ·rw [if_pos hrn] at hn; cases hn
       ·rwa [if_neg hrn] at hn)
      (fun k' hk => ⟨(hi.own r _ k' hlk hk).1, (hi.own r _ k' hlk hk).2, fun n b' hn hk' => by
       rw [look_del] at hn
       by_cases hrn : r = n
       ·rw [if_pos hrn] at hn; cases hn
       ·rw [if_neg hrn] at hn
        exact hrn (hi.disj r n _ b' k' hlk hn hk hk')⟩)
      ⟨cs.take (k.toNat * t.sz), by rw [upd_self, List.length_take, Nat.min_eq_left h6]; exact own_prefix how k.toNat h6, RepL.take (fun _ _ h => Ty.Rep.length h) hrl k.toNat⟩
      (fun k' hk => .inl (by rw [h3]; cases A <;> simp [blkV] at hk ⊢ <;> exact hk))
     exact ⟨⟨Z, _, hmk.1, setd_same hmk.2 ⟨by rw [upd_self]; exact h4, by rw [upd_self]; exact ⟨_, _, _, rfl⟩⟩, fun j hj => (upd_ne (by omega)).trans (hγ j hj)⟩, hb, hd⟩
    ·cases h
   ·cases h
  ·cases h
 | bown e t j =>
  simp only [prep] at h
  split at h
  ·rename_i b hc
   split at h
   ·rename_i T l hl
    split at h
    ·rename_i hj
     split at h
     ·rename_i hf
      cases h
      rw [Bool.and_eq_true] at hf
      obtain ⟨hf, hnb⟩ := hf
      have hnb : ¬ n = b := by
       rintro rfl
       rw [beqt.2 rfl] at hnb
       cases hnb
      have hmk := make_ok (w' := w) (N := fun _ => False) (v := .slice none 0 0) (b := .row e t []) hi hs hf (Frm.refl _ _) (fun _ _ h => h) (fun _ hn => hn.elim)
       ⟨[], by rw [upd_self]; exact World.ownsRow_nil w 0 e t.sz, rfl⟩ (fun k hk => by cases hk)
      have hl2 : look (s.withOb (put s.ob n (.row e t []))).ob b = some (.box T l) := by
       show look (put s.ob n (.row e t [])) b = _
       rw [look_put, if_neg hnb, hl]
      obtain ⟨g2, cur, h6, h7, h8⟩ := hmk.1.obs b _ hl2
      have hrw := rewrite_ok (s := s.withOb (put s.ob n (.row e t []))) (w' := w) (n := b) (b := .box T (l.set j (.o n))) hmk.1 hmk.2 hl2 ((Frm.refl (fun _ => False) w).mono fun _ _ h => h.elim)
       ⟨g2, cur, h6, h7, by
        have hjl := (List.getElem?_eq_some_iff.1 hj).1
        have hlen := All2.length h8
        have hjv : cur.toList[j]? = some (.slice none 0 0) := by
         have hjc : j < cur.toList.length := by omega
         have := All2.get j _ cur.toList[j] h8 hj (List.getElem?_eq_getElem hjc)
         rw [List.getElem?_eq_getElem hjc]
         exact congrArg some this
        exact All2.set_left h8 hjv ⟨by rw [upd_self], by rw [upd_self]; exact ⟨_, _, _, rfl⟩⟩⟩ (fun _ _ _ e => by cases e)
      exact ⟨⟨Z, _, hrw.1, hrw.2, fun j hj => (upd_ne (by omega)).trans (hγ j hj)⟩, hb, hd⟩
     ·cases h
    ·cases h; exact hg
    ·rename_i r k hj
     split at h
     ·rename_i xs hx
      split at h
      ·rename_i hf
       cases h
       rw [Bool.and_eq_true] at hf
       obtain ⟨hf, hnb⟩ := hf
       have hnb : ¬ n = b := by
        rintro rfl
        rw [beqt.2 rfl] at hnb
        cases hnb
       have hlk := rowAt_ok hx
       have hrb : r ≠ b := by
        rintro rfl
        rw [hl] at hlk
        cases hlk
       obtain ⟨cs, how, hrl⟩ := hi.obs r _ hlk
       obtain ⟨g0, cur0, h60, h70, h80⟩ := hi.obs b _ hl
       have hjl0 := (List.getElem?_eq_some_iff.1 hj).1
       have hjc0 : j < cur0.toList.length := by have := All2.length h80; omega
       obtain ⟨A, n', cp, h3, h4, h5, h6⟩ := All2.get j _ cur0.toList[j] h80 hj (List.getElem?_eq_getElem hjc0)
       rw [h3] at how
       have hn' : n' = xs.length := by
        rcases how.2 with ⟨e1, e2⟩ | ⟨_, _, _, e1, _⟩
        ·cases e1; exact e2.symm
        ·cases e1; rfl
       subst hn'
       have hmk := make_ok (w' := w) (N := fun k' => blkV (γ r) = some k') (ob1 := del s.ob r) (v := .slice A k.toNat cp) (b := .row e t (xs.take k.toNat)) hi hs hf ((Frm.refl (fun _ => False) w).mono fun _ _ h => h.elim)
        (fun n b hn => by
         rw [look_del] at hn
         by_cases hrn : r = n
         ·rw [if_pos hrn] at hn; cases hn
         ·rwa [if_neg hrn] at hn)
        (fun k' hk => ⟨(hi.own r _ k' hlk hk).1, (hi.own r _ k' hlk hk).2, fun n b' hn hk' => by
         rw [look_del] at hn
         by_cases hrn : r = n
         ·rw [if_pos hrn] at hn; cases hn
         ·rw [if_neg hrn] at hn
          exact hrn (hi.disj r n _ b' k' hlk hn hk hk')⟩)
        ⟨cs.take (k.toNat * t.sz), by rw [upd_self, List.length_take, Nat.min_eq_left h6]; exact own_prefix how k.toNat h6, RepL.take (fun _ _ h => Ty.Rep.length h) hrl k.toNat⟩
        (fun k' hk => .inl (by rw [h3]; cases A <;> simp [blkV] at hk ⊢ <;> exact hk))
       have hl2 : look (s.withOb (put (del s.ob r) n (.row e t (xs.take k.toNat)))).ob b = some (.box T l) := by
        show look (put (del s.ob r) n (.row e t (xs.take k.toNat))) b = _
        rw [look_put, if_neg hnb, look_del, if_neg hrb, hl]
       obtain ⟨g2, cur, h7, h8, h9⟩ := hmk.1.obs b _ hl2
       have hcur : cur = cur0 := by
        rw [upd_ne (Ne.symm hnb), h60] at h7
        cases h7
        rw [h70] at h8
        cases h8
        rfl
       subst hcur
       have hrw := rewrite_ok (s := s.withOb (put (del s.ob r) n (.row e t (xs.take k.toNat)))) (w' := w) (n := b) (b := .box T (l.set j (.o n))) hmk.1 hmk.2 hl2 ((Frm.refl (fun _ => False) w).mono fun _ _ h => h.elim)
        ⟨g2, cur, h7, h8, All2.set_left h9 (List.getElem?_eq_getElem hjc0) ⟨by rw [upd_self]; exact h4, by rw [upd_self]; exact ⟨_, _, _, rfl⟩⟩⟩ (fun _ _ _ e => by cases e)
       exact ⟨⟨Z, _, hrw.1, hrw.2, fun j hj => (upd_ne (by omega)).trans (hγ j hj)⟩, hb, hd⟩
      ·cases h
     ·cases h
    ·cases h
   ·cases h
  ·cases h; exact hg
  ·cases h
theorem prepL_ok (hm : m ≤ 1000) : ∀ {l : List (Nat × Keep)} {n : Nat} {s s' : St}, 1000 ≤ n → prepL s n l = some s' → Good w0 M Z0 γ0 m s a w → Good w0 M Z0 γ0 m s' a w
 | [], n, s, s', _, h, hg => by simp only [prepL] at h; cases h; exact hg
 | (i, k) :: l, n, s, s', hn, h, hg => by
  simp only [prepL] at h
  split at h
  ·rename_i s1 h1
   exact prepL_ok hm (by omega) h (prep_ok hm hn h1 hg)
  ·cases h
theorem place_get {n : Nat} : ∀ {ρ : List Nat} {k j : Nat}, place n ρ k = some j → k ≤ j ∧ ρ[j - k]? = some n
 | [], k, j, h => by cases h
 | x :: ρ, k, j, h => by
  simp only [place] at h
  split at h
  ·rename_i hx
   cases h
   exact ⟨Nat.le_refl _, by simp [beqt.1 hx]⟩
  ·obtain ⟨h1, h2⟩ := place_get h
   refine ⟨by omega, ?_⟩
   rw [show j - k = (j - (k + 1)) + 1 by omega, List.getElem?_cons_succ]
   exact h2
def gren (γ : Nat → Value) (ρ : List Nat) : Nat → Value := fun j => match ρ[j]? with | some n => γ n | none => .tuple #[]
theorem gren_place {ρ : List Nat} {n j : Nat} (h : place n ρ 0 = some j) : gren γ ρ j = γ n := by
 have := (place_get h).2
 simp only [Nat.sub_zero] at this
 simp only [gren, this]
theorem places_ren {ρ : List Nat} : ∀ {cs js : List Nat}, places_ ρ cs = some js → js.map (gren γ ρ) = cs.map γ
 | [], js, h => by simp only [places_] at h; cases h; rfl
 | c :: cs, js, h => by
  simp only [places_] at h
  split at h
  ·rename_i j r h1 h2
   cases h
   rw [List.map_cons, List.map_cons, gren_place h1, places_ren h2]
  ·cases h
theorem ren_lf {ρ : List Nat} {c : Lf} {v : Value} (h : LfOK w Z γ c v) : LfOK w Z (gren γ ρ) (c.ren ρ) v := by
 cases c with
 | o r =>
  simp only [Lf.ren]
  split
  ·rename_i j hj; simpa only [LfOK, gren_place hj] using h
  ·trivial
 | oh r k =>
  simp only [Lf.ren]
  split
  ·rename_i j hj; simpa only [LfOK, gren_place hj] using h
  ·trivial
 | ot r k z =>
  simp only [Lf.ren]
  split
  ·rename_i j hj; simpa only [LfOK, gren_place hj] using h
  ·trivial
 | p b off =>
  simp only [Lf.ren]
  split
  ·rename_i j hj; simpa only [LfOK, gren_place hj] using h
  ·trivial
 | fn f cs =>
  simp only [Lf.ren]
  split
  ·rename_i js hjs
   have e := places_ren (γ := γ) hjs
   refine ⟨h.1.trans (by rw [e]), by rw [e]; exact h.2.1, fun b hb => ?_⟩
   have : gren γ ρ b ∈ cs.map γ := by rw [← e]; exact List.mem_map.2 ⟨b, hb, rfl⟩
   obtain ⟨c, hc, e2⟩ := List.mem_map.1 this
   rw [← e2]
   exact h.2.2 c hc
  ·trivial
 | _ => exact h
theorem ren_lfs {ρ : List Nat} {l : List Lf} {vs : List Value} (h : All2 (LfOK w Z γ) l vs) : All2 (LfOK w Z (gren γ ρ)) (l.map (Lf.ren ρ)) vs := All2.map _ (fun _ _ _ h => ren_lf h) h
theorem look_renOb {ob : List (Nat × Ob)} {ρ : List Nat} {n : Nat} {o : Ob} : ∀ {l : List Nat} {j : Nat}, look (renOb ob ρ j l) n = some o → j ≤ n ∧ ∃ k o0, l[n - j]? = some k ∧ look ob k = some o0 ∧ o = o0.map (Lf.ren ρ)
 | [], j, h => by cases h
 | k :: l, j, h => by
  simp only [renOb] at h
  split at h
  ·rename_i o0 ho
   simp only [look] at h
   split at h
   ·rename_i hj
    cases h
    have := beqt.1 hj
    subst this
    exact ⟨Nat.le_refl _, k, o0, by simp, ho, rfl⟩
   ·obtain ⟨h1, k', o1, h2, h3⟩ := look_renOb h
    refine ⟨by omega, k', o1, ?_, h3⟩
    rw [show n - j = (n - (j + 1)) + 1 by omega, List.getElem?_cons_succ]
    exact h2
  ·obtain ⟨h1, k', o1, h2, h3⟩ := look_renOb h
   refine ⟨by omega, k', o1, ?_, h3⟩
   rw [show n - j = (n - (j + 1)) + 1 by omega, List.getElem?_cons_succ]
   exact h2
theorem dedup_spec : ∀ (l a : List Nat), a.Nodup → (dedup a l).Nodup ∧ ∃ r, dedup a l = a ++ r
 | [], a, h => ⟨h, [], by simp [dedup]⟩
 | n :: l, a, h => by
  simp only [dedup]
  split
  ·exact dedup_spec l a h
  ·rename_i hn
   obtain ⟨h1, r, h2⟩ := dedup_spec l (a ++ [n]) (List.nodup_append.2 ⟨h, by simp, fun x hx y hy e => hn (List.any_eq_true.2 ⟨x, hx, beqt.2 (by simp at hy; rw [e, hy])⟩)⟩)
   exact ⟨h1, [n] ++ r, by rw [h2, List.append_assoc]⟩
theorem upto_get : ∀ (k i : Nat), i < k → (upto k)[i]? = some i
 | 0, i, h => by omega
 | k + 1, i, h => by
  have hl : ∀ k, (upto k).length = k := by intro k; induction k with | zero => rfl | succ k ih => simp [upto, ih]
  simp only [upto]
  by_cases hi : i < k
  ·rw [List.getElem?_append_left (by rw [hl]; exact hi)]
   exact upto_get k i hi
  ·have : i = k := by omega
   subst this
   rw [List.getElem?_append_right (by rw [hl]; exact Nat.le_refl _), hl]
   simp
theorem upto_len : ∀ k, (upto k).length = k := by intro k; induction k with | zero => rfl | succ k ih => simp [upto, ih]
theorem upto_mem : ∀ (k n : Nat), n ∈ upto k → n < k
 | 0, _, h => by simp [upto] at h
 | k + 1, n, h => by
  simp only [upto, List.mem_append, List.mem_singleton] at h
  rcases h with h | h
  ·exact Nat.lt_succ_of_lt (upto_mem k n h)
  ·omega
theorem upto_nodup : ∀ (k : Nat), (upto k).Nodup
 | 0 => List.nodup_nil
 | k + 1 => List.nodup_append.2 ⟨upto_nodup k, by simp, fun x hx y hy e => by
  have := upto_mem k x hx
  simp at hy
  omega⟩
theorem renSl_get {ρ live : List Nat} : ∀ (l : List Slot) (k i : Nat), (renSl ρ live k l).getD i (.lf .u) = .lf .u ∨ ∃ x, l[i]? = some x ∧ (renSl ρ live k l).getD i (.lf .u) = x.ren ρ
 | [], k, i => .inl (by simp [renSl])
 | x :: l, k, 0 => by
  simp only [renSl, List.getD_cons_zero]
  split
  ·exact .inr ⟨x, rfl, rfl⟩
  ·exact .inl rfl
 | x :: l, k, i + 1 => by
  simp only [renSl, List.getD_cons_succ, List.getElem?_cons_succ]
  exact renSl_get l (k + 1) i
theorem renSl_len {ρ live : List Nat} : ∀ (l : List Slot) (k : Nat), (renSl ρ live k l).length = l.length
 | [], _ => rfl
 | x :: l, k => by simp [renSl, renSl_len l (k + 1)]
theorem canonB_len (ob : List (Nat × Ob)) (m : Nat) : (canonB ob m).length = m := by unfold canonB; rw [List.length_map, upto_len]
theorem canonB_nodup (ob : List (Nat × Ob)) {m : Nat} (hm : m ≤ 1000) : (canonB ob m).Nodup := by
 unfold canonB
 have h : ∀ l : List Nat, l.Nodup → (∀ n ∈ l, n < m) → (l.map fun n => if nestR ob n = true then 5000000 + n else n).Nodup := by
  intro l
  induction l with
  | nil => intro _ _; exact List.nodup_nil
  | cons x l ih =>
   intro h hl
   obtain ⟨h1, h2⟩ := List.nodup_cons.1 h
   refine List.nodup_cons.2 ⟨fun hx => ?_, ih h2 fun n hn => hl n (List.mem_cons_of_mem _ hn)⟩
   obtain ⟨y, hy, e⟩ := List.mem_map.1 hx
   have a1 := hl x List.mem_cons_self
   have a2 := hl y (List.mem_cons_of_mem _ hy)
   have : y = x := by
    revert e
    dsimp only
    split <;> split <;> intro e <;> omega
   exact h1 (this ▸ hy)
 exact h _ (upto_nodup m) fun n hn => upto_mem m n hn
theorem canon_ok {live : List Nat} (hm : m ≤ 1000) (hfr : ((upto m).all fun n => !(nestR s.ob n) || s.fresh (5000000 + n)) = true) (hg : Good w0 M Z0 γ0 m s a w) : Good w0 M Z0 γ0 m (s.canon m live) a w := by
 obtain ⟨⟨Z, γ0', hi, hs, hγ⟩, hb, hd⟩ := hg
 have hfr' : ∀ n, n < m → nestR s.ob n = true → s.fresh (5000000 + n) = true := by
  intro n hn h
  have hmem : n ∈ upto m := List.mem_of_getElem? (upto_get m n hn)
  have := List.all_eq_true.1 hfr n hmem
  rw [h] at this
  simpa using this
 obtain ⟨γ, hγd⟩ : ∃ γ : Nat → Value, γ = fun k => if 5000000 ≤ k ∧ k - 5000000 < m ∧ nestR s.ob (k - 5000000) = true then γ0' (k - 5000000) else γ0' k := ⟨_, rfl⟩
 have hsame : ∀ k, s.fresh k = false → γ k = γ0' k := by
  intro k hk
  rw [hγd]
  dsimp only
  split
  ·rename_i h
   have := hfr' _ h.2.1 h.2.2
   rw [Nat.add_sub_cancel' h.1] at this
   rw [hk] at this
   cases this
  ·rfl
 have hlow : ∀ n, n < m → γ n = γ0' n := by
  intro n hn
  rw [hγd]
  dsimp only
  rw [if_neg (fun h => by omega)]
 have hdum : ∀ n, n < m → nestR s.ob n = true → γ (5000000 + n) = γ0' n := by
  intro n hn h
  rw [hγd]
  dsimp only
  rw [Nat.add_sub_cancel_left, if_pos ⟨by omega, hn, h⟩]
 have hkey : ∀ n o, look s.ob n = some o → γ n = γ0' n ∧ ∀ j, o.names j = true → γ j = γ0' j := by
  intro n o h
  refine ⟨hsame n ?_, fun j hj => hsame j ?_⟩
  ·cases hf : s.fresh n with
   | false => rfl
   | true => exact absurd rfl (fresh_ob hf h).1
  ·cases hf : s.fresh j with
   | false => rfl
   | true => have := (fresh_ob hf h).2; rw [hj] at this; cases this
 replace hi : Inv w0 M Z0 w Z γ s.ob := by
  refine ⟨hi.frm, hi.zlt, hi.zold, fun n o h => ?_, fun n n' o o' b h h' h1 h2 => ?_, fun n o b h h1 => ?_⟩
  ·exact (hi.obs n o h).keep (Stay.refl w Z) (fun _ _ => rfl) (hkey n o h).1 (hkey n o h).2
  ·rw [(hkey n o h).1] at h1
   rw [(hkey n' o' h').1] at h2
   exact hi.disj n n' o o' b h h' h1 h2
  ·rw [(hkey n o h).1] at h1
   exact hi.own n o b h h1
 replace hs : SlotsOK w Z γ s.ob s.sl a.tmps := by
  refine ⟨hs.len, fun i => (hs.ok i).keep (Stay.refl w Z) fun n hn => ⟨hsame n ?_, fun E t xs h => ⟨E, xs, h, rfl⟩⟩⟩
  cases hf : s.fresh n with
  | false => rfl
  | true => have := fresh_sl (i := i) hf; rw [hn] at this; cases this
 unfold St.canon
 obtain ⟨ρ, hρ⟩ : ∃ ρ, ρ = dedup (canonB s.ob m) (namesOf s.ob 4 (s.lfs live)) := ⟨_, rfl⟩
 rw [← hρ]
 obtain ⟨hnd, r, hpre⟩ := dedup_spec (namesOf s.ob 4 (s.lfs live)) (canonB s.ob m) (canonB_nodup s.ob hm)
 rw [← hρ] at hnd hpre
 have hlk : ∀ n o, look (renOb s.ob ρ 0 ρ) n = some o → ∃ k o0, ρ[n]? = some k ∧ look s.ob k = some o0 ∧ o = o0.map (Lf.ren ρ) ∧ gren γ ρ n = γ k := by
  intro n o h
  obtain ⟨_, k, o0, h1, h2, h3⟩ := look_renOb h
  rw [Nat.sub_zero] at h1
  exact ⟨k, o0, h1, h2, h3, by simp only [gren, h1]⟩
 refine ⟨⟨Z, gren γ ρ, ⟨hi.frm, hi.zlt, hi.zold, ?_, ?_, ?_⟩, ⟨by rw [renSl_len]; exact hs.len, fun i => ?_⟩, fun n hn => ?_⟩, hb, hd⟩
 ·intro n o h
  obtain ⟨k, o0, h1, h2, h3, h4⟩ := hlk n o h
  have := hi.obs k o0 h2
  subst h3
  cases o0 with
  | row E t xs => obtain ⟨cs, h5, h6⟩ := this; exact ⟨cs, by rw [h4]; exact h5, h6⟩
  | box T l => obtain ⟨g, cur, h5, h6, h7⟩ := this; exact ⟨g, cur, h4.trans h5, h6, ren_lfs h7⟩
 ·intro n n' o o' b h h' hb1 hb2
  obtain ⟨k, o0, h1, h2, _, h4⟩ := hlk n o h
  obtain ⟨k', o0', h1', h2', _, h4'⟩ := hlk n' o' h'
  rw [h4] at hb1
  rw [h4'] at hb2
  have := hi.disj k k' o0 o0' b h2 h2' hb1 hb2
  subst this
  exact (List.getElem?_inj (List.getElem?_eq_some_iff.1 h1).1 hnd).1 (h1.trans h1'.symm)
 ·intro n o b h hb1
  obtain ⟨k, o0, h1, h2, _, h4⟩ := hlk n o h
  rw [h4] at hb1
  exact hi.own k o0 b h2 hb1
 ·rcases renSl_get (ρ := ρ) (live := live) s.sl 0 i with h | ⟨x, hx, h⟩
  ·rw [h]; trivial
  ·rw [h]
   have hok := hs.ok i
   rw [List.getD_eq_getElem?_getD, hx, Option.getD_some] at hok
   cases x with
   | lf c => exact ren_lf hok
   | ag l => obtain ⟨cs, e, hl⟩ := hok; exact ⟨cs, e, ren_lfs hl⟩
   | tp l =>
    obtain ⟨vs, e, hl⟩ := hok
    refine ⟨vs, e, All2.map _ (fun y _ v h => ?_) hl⟩
    dsimp only
    split at h
    ·rename_i hb
     rw [if_pos hb]
     obtain ⟨cs, e, h⟩ := h
     exact ⟨cs, e, ren_lfs h⟩
    ·rename_i hb
     rw [if_neg hb]
     obtain ⟨c, e, h⟩ := h
     exact ⟨_, by rw [e]; rfl, ren_lf h⟩
   | q l => obtain ⟨ad, vs, e, hz, hl, hc⟩ := hok; exact ⟨ad, vs, e, hz, ren_lfs hl, hc⟩
   | e r j off =>
    simp only [Slot.ren]
    split
    ·rename_i j' hj'
     intro E t xs hx
     obtain ⟨k, o0, h1, h2, h3, h4⟩ := hlk j' _ hx
     have h5 := (place_get hj').2
     rw [Nat.sub_zero, h1] at h5
     cases h5
     cases o0 with
     | box T l => cases h3
     | row E' t' xs' =>
      cases h3
      rw [h4]
      exact hok E t xs h2
    ·trivial
 ·have h1 : ρ[n]? = some (if nestR s.ob n = true then 5000000 + n else n) := by
   rw [hpre, List.getElem?_append_left (by rw [canonB_len]; exact hn)]
   unfold canonB
   rw [List.getElem?_map, upto_get m n hn]
   rfl
  simp only [gren, h1]
  split
  ·rename_i h
   rw [hdum n hn h]
   exact hγ n hn
  ·rw [hlow n hn]
   exact hγ n hn
theorem at_ok (hm : m ≤ 1000) {k : List (Nat × Keep)} (h : atPlace s m k = some s') (hg : Good w0 M Z0 γ0 m s a w) : Good w0 M Z0 γ0 m s' a w := by
 unfold atPlace at h
 split at h
 ·rename_i s1 h1
  split at h
  ·rename_i hfr
   cases h
   exact canon_ok hm hfr (prepL_ok hm (by omega) h1 hg)
  ·cases h
 ·cases h
end
end Go.GV
namespace Go.GV
section
variable {P : Program} {E : Env} {w w0 : World} {M Z0 Z : Nat → Prop} {γ γ' γ0 : Nat → Value} {m : Nat} {s s' : St} {a : Act}
theorem refs_lt : ∀ (l : Shs) (n i : Nat), l.allBox = true → i ∈ l.refs n → i < n + l.cnt
 | .nil, n, i, _, h => by simp [Shs.refs] at h
 | .cons (.box T sh) l, n, i, ha, h => by
  simp only [Shs.allBox] at ha
  simp only [Shs.refs, List.mem_cons] at h
  rcases h with h | h
  ·simp only [Shs.cnt, Sh.cnt]; omega
  ·have := refs_lt l _ i ha h
   simp only [Shs.cnt]; omega
 | .cons (.val _) _, _, _, ha, _ => by cases ha
 | .cons (.own _ _) _, _, _, ha, _ => by cases ha
 | .cons (.mv _ _) _, _, _, ha, _ => by cases ha
 | .cons (.fn _ _) _, _, _, ha, _ => by cases ha
 | .cons (.rcd _) _, _, _, ha, _ => by cases ha
mutual
theorem mk_rest : ∀ {s : Sh} {x : s.T.D} {n k : Nat} {c : List Lf} {ob : List (Nat × Ob)} {rest : List Nat}, s.mk (List.range' n k) x = some (c, ob, rest) → s.cnt ≤ k ∧ rest = List.range' (n + s.cnt) (k - s.cnt) ∧
  ((match s with | .val _ => true | .rcd _ => true | _ => false) = true ∨ c = [s.ref n]) ∧ ∀ j, (s.ref n).names j = true → j < n + s.cnt
 | .val t, x, n, k, c, ob, rest, h => by
  simp only [Sh.mk] at h
  cases h
  exact ⟨Nat.zero_le _, rfl, .inl rfl, fun j hj => by simp [Sh.ref, Lf.names] at hj⟩
 | .own e t, x, n, 0, c, ob, rest, h => by simp [Sh.mk] at h
 | .own e t, x, n, k + 1, c, ob, rest, h => by
  simp only [Sh.mk, List.range'_succ] at h
  cases h
  exact ⟨by simp [Sh.cnt], rfl, .inr rfl, fun j hj => by simp only [Sh.ref, Lf.names, beqt] at hj; simp only [Sh.cnt]; omega⟩
 | .mv e t, x, n, 0, c, ob, rest, h => by simp [Sh.mk] at h
 | .mv e t, x, n, k + 1, c, ob, rest, h => by
  simp only [Sh.mk, List.range'_succ] at h
  cases h
  exact ⟨by simp [Sh.cnt], rfl, .inr rfl, fun j hj => by simp only [Sh.ref, Lf.names, beqt] at hj; simp only [Sh.cnt]; omega⟩
 | .box T sh, x, n, 0, c, ob, rest, h => by simp [Sh.mk] at h
 | .box T sh, x, n, k + 1, c, ob, rest, h => by
  simp only [Sh.mk, List.range'_succ] at h
  split at h
  ·rename_i c1 ob1 m1 h1
   cases h
   obtain ⟨h2, h3, _⟩ := mks_rest h1
   refine ⟨by simp only [Sh.cnt]; omega, ?_, .inr rfl, fun j hj => by simp only [Sh.ref, Lf.names, beqt] at hj; simp only [Sh.cnt]; omega⟩
   rw [h3]
   simp only [Sh.cnt]
   congr 1 <;> omega
  ·cases h
 | .fn f sh, x, n, k, c, ob, rest, h => by
  simp only [Sh.mk] at h
  split at h
  ·rename_i c1 ob1 m1 h1
   split at h1
   ·rename_i ha
    cases h
    obtain ⟨h2, h3, h4⟩ := mks_rest h1
    refine ⟨h2, h3, .inr ?_, fun j hj => ?_⟩
    ·rw [h4 ha]
     rfl
    ·simp only [Sh.ref, Lf.names, List.any_eq_true] at hj
     obtain ⟨i, hi, hb⟩ := hj
     rw [beqt.1 hb]
     exact refs_lt sh n i ha hi
   ·cases h1
  ·cases h
 | .rcd sh, x, n, k, c, ob, rest, h => by
  have h0 : (if sh.flat = true then sh.mk (List.range' n k) x else none) = some (c, ob, rest) := h
  by_cases hf : sh.flat = true
  ·rw [if_pos hf] at h0
   obtain ⟨h2, h3, _⟩ := mks_rest (s := sh) h0
   exact ⟨h2, h3, .inl rfl, fun j hj => by simp [Sh.ref, Lf.names] at hj⟩
  ·rw [if_neg hf] at h0
   cases h0
theorem mks_rest : ∀ {s : Shs} {x : s.T.D} {n k : Nat} {c : List Lf} {ob : List (Nat × Ob)} {rest : List Nat}, s.mk (List.range' n k) x = some (c, ob, rest) → s.cnt ≤ k ∧ rest = List.range' (n + s.cnt) (k - s.cnt) ∧
  (s.allBox = true → c.map capOf = s.refs n)
 | .nil, x, n, k, c, ob, rest, h => by
  simp only [Shs.mk] at h
  cases h
  exact ⟨Nat.zero_le _, rfl, fun _ => rfl⟩
 | .cons s l, x, n, k, c, ob, rest, h => by
  simp only [Shs.mk] at h
  split at h
  ·rename_i c1 ob1 m1 h1
   split at h
   ·rename_i c2 ob2 m2 h2
    cases h
    obtain ⟨h3, h4, h5, _⟩ := mk_rest h1
    subst h4
    obtain ⟨h6, h7, h8⟩ := mks_rest h2
    refine ⟨by simp only [Shs.cnt]; omega, by rw [h7]; simp only [Shs.cnt]; congr 1 <;> omega, fun ha => ?_⟩
    cases s with
    | box T sh =>
     simp only [Shs.allBox] at ha
     rcases h5 with h5 | h5
     ·cases h5
     ·rw [h5, List.map_append, h8 ha]
      rfl
    | _ => cases ha
   ·cases h
  ·cases h
end
theorem upto_range : ∀ k, upto k = List.range' 0 k
 | 0 => rfl
 | k + 1 => by rw [upto, upto_range k, List.range'_concat]; simp
theorem refP_ok : ∀ {s : Shs} {x : s.T.D} {n k : Nat} {c : List (Bool × List Lf)} {ob : List (Nat × Ob)} {rest : List Nat} {vs : List Value}, s.mkA (List.range' n k) x = some (c, ob, rest) →
  All2 (fun (y : Bool × List Lf) v => if y.1 = true then ∃ cs, v = .agg cs ∧ All2 (LfOK w Z γ) y.2 cs.toList else ∃ d, y.2 = [d] ∧ LfOK w Z γ d v) c vs → ∀ N, n + s.cnt ≤ N → All2 (fun y v => (∀ w' Z' ob', SlotOK w' Z' γ ob' y v) ∧ ∀ j, y.names j = true → j < N) (s.refP n) (s.io vs)
 | .nil, x, n, k, c, ob, rest, vs, h, hl, N, hN => by trivial
 | .cons s l, x, n, k, c, ob, rest, vs, h, hl, N, hN => by
  simp only [Shs.mkA] at h
  split at h
  ·rename_i c1 ob1 m1 h1
   split at h
   ·rename_i c2 ob2 m2 h2
    cases h
    cases vs with
    | nil => exact hl.elim
    | cons v vs =>
     obtain ⟨h3, h4, h5, h7⟩ := mk_rest h1
     subst h4
     simp only [Shs.cnt] at hN
     have ih := refP_ok (s := l) h2 hl.2 N (by omega)
     have h6 := hl.1
     simp only [Shs.refP, Shs.io]
     cases s with
     | val t => exact ih
     | mv e t => exact ih
     | rcd b => exact ih
     | own e t =>
      rcases h5 with h5 | h5
      ·cases h5
      ·obtain ⟨d, e1, e2⟩ := h6
       rw [h5] at e1
       cases e1
       exact ⟨⟨fun _ _ _ => e2, fun j hj => Nat.lt_of_lt_of_le (h7 j hj) (by omega)⟩, ih⟩
     | box T sh =>
      rcases h5 with h5 | h5
      ·cases h5
      ·obtain ⟨d, e1, e2⟩ := h6
       rw [h5] at e1
       cases e1
       exact ⟨⟨fun _ _ _ => e2, fun j hj => Nat.lt_of_lt_of_le (h7 j hj) (by omega)⟩, ih⟩
     | fn f sh =>
      rcases h5 with h5 | h5
      ·cases h5
      ·obtain ⟨d, e1, e2⟩ := h6
       rw [h5] at e1
       cases e1
       exact ⟨⟨fun _ _ _ => e2, fun j hj => Nat.lt_of_lt_of_le (h7 j hj) (by omega)⟩, ih⟩
   ·cases h
  ·cases h
def resM (tm : Array Value) : ResultVar → Sem Value
 | .tmp t => pure (tm.getD t undef)
 | .cell a t => do loadVar t (← asAddr (tm.getD a undef))
theorem resSlots_ok (henv : envOK P E = true) {γ : Nat → Value} (hi : Inv w0 M Z0 w Z γ s.ob) {tm : Array Value} (hs : SlotsOK w Z γ s.ob s.sl tm) : ∀ {rv : List ResultVar} {l : List Slot}, resSlots E s rv = some l →
  ∃ vs, (rv.mapM (resM tm)).run P w = .ok vs w ∧ All2 (SlotOK w Z γ s.ob) l vs
 | [], l, h => by simp only [resSlots] at h; cases h; exact ⟨[], by simp, trivial⟩
 | .tmp t :: rv, l, h => by
  simp only [resSlots] at h
  split at h
  ·rename_i r hr
   cases h
   obtain ⟨vs, h1, h2⟩ := resSlots_ok henv hi hs hr
   exact ⟨_ :: vs, by simp only [List.mapM_cons, Sem.run_bind, h1, resM, Sem.run_pure, Result.andThen_ok], hs.ok t, h2⟩
  ·cases h
 | .cell x T :: rv, l, h => by
  simp only [resSlots] at h
  split at h
  ·rename_i r b off hr hx
   split at h
   ·rename_i U c hl
    split at h
    ·rename_i ag n hc
     split at h
     ·rename_i y hy
      cases h
      obtain ⟨vs, h1, h2⟩ := resSlots_ok henv hi hs hr
      have hx' := hs.ok x
      rw [show s.sl.getD x (.lf .u) = .lf (.p b off) from hx] at hx'
      obtain ⟨g, h4, h5⟩ := hx'
      obtain ⟨g2, cur, h6, h7, h8⟩ := hi.obs b _ hl
      rw [h4] at h6
      cases h6
      obtain ⟨hn, hsl⟩ := pick_ok (ob := s.ob) hy (All2.drop off h8)
      have hld := run_loadVar (P := P) (w := w) (cell_ok henv hc) ⟨g, off, none⟩ ((cur.toList.drop off).take n) (by rw [List.length_take]; omega) fun j u hu => cells_at h7 j u (by
       rw [List.getElem?_take] at hu
       split at hu
       ·exact hu
       ·cases hu)
      refine ⟨_ :: vs, ?_, hsl, h2⟩
      have hx2 : (resM tm (.cell x T)).run P w = .ok (ofCells ag ((cur.toList.drop off).take n)) w := by
       simp only [resM, Sem.run_bind, Sem.run_pure, Result.andThen_ok, h5, asAddr, hld]
      simp only [List.mapM_cons, Sem.run_bind, Sem.run_pure, Result.andThen_ok, hx2, h1]
     ·cases h
    ·cases h
   ·cases h
  ·cases h
theorem join_fst : ∀ (a b : Tys) (x : a.D) (y : b.D), a.fst b (a.join b x y) = x
 | .nil, _, _, _ => rfl
 | .cons _ a, b, x, y => by simp only [Tys.join, Tys.fst, join_fst a b]; rfl
theorem join_snd : ∀ (a b : Tys) (x : a.D) (y : b.D), a.snd b (a.join b x y) = y
 | .nil, _, _, _ => rfl
 | .cons _ a, b, x, y => by simp only [Tys.join, Tys.snd, join_snd a b]
theorem run_results {fn : Func} {tm : Array Value} {vs : List Value} (h : (fn.results.toList.mapM (resM tm)).run P w = .ok vs w) :
  (results fn tm).run P w = .ok (resVal vs) w := by
 have e : results fn tm = (do
   let vs ← fn.results.mapM (resM tm)
   pure (if h : vs.size = 1 then vs[0] else .tuple vs)) := by
  unfold results
  congr 2
 rw [e, Array.mapM_eq_mapM_toList]
 simp only [Sem.run_bind, Sem.run_map, h, Result.andThen_ok, Sem.run_pure]
 congr 1
 match vs with
 | [] => rfl
 | [v] => rfl
 | v :: v' :: vs => simp [resVal]
theorem optSh_rep {s : Shs} (hs : optSh s = true) {x : s.T.D} {vs : List Value} {bs : List Nat} (h : s.RepA w Z x (.bool false :: vs) bs) : s.T.nilB x = false ∧ ∃ v, vs = [v] := by
 unfold optSh at hs
 split at hs
 ·rename_i q
  obtain ⟨v, vs', c, d, e1, e2, ⟨cs, h0, h1, _⟩, v2, vs2, c2, d2, e3, e4, _, e5, _⟩ := h
  obtain ⟨ev, evs⟩ := List.cons.inj e1
  have h0' : cs = [v] := h0
  have h1' : cs = [.bool x.1] := h1
  rw [h0', ← ev] at h1'
  have hx : false = (show Bool from x.1) := by
   have := List.cons.inj h1'
   exact Value.bool.inj this.1
  refine ⟨hx.symm, v2, ?_⟩
  rw [evs, e3, e5]
 ·cases hs
theorem idn_back {D : FnD} {γ : Nat → Value} {nb : List Nat} {args : List Value} {y : D.par.inout.T.D} {l : List Slot} {ob : List (Nat × Ob)} (hob : ∀ n o, look ob n = some o → ObOK w Z γ n o) (hy : D.par.inout.takeA ob l = some (y, nb)) (hio : All2 (SlotOK w Z γ ob) l (D.par.io args))
  (hid : ∃ bx, D.par.inout.Bx w0 (D.par.io args) bx ∧ (pickB D.par.inout.bxs (D.par.keep (upto D.par.cnt))).map γ = bx.map ptrV) (h : idnOK D nb = true) : D.idn = true → ∃ bx, D.par.inout.Bx w0 (D.par.io args) bx ∧ D.par.inout.Bx w (D.par.io args) bx := by
 intro q
 unfold idnOK at h
 rw [q] at h
 simp only [Bool.not_true, Bool.false_or] at h
 obtain ⟨bx, h1, h2⟩ := hid
 obtain ⟨bx', h3, h4⟩ := takeA_bx hob hy hio
 rw [eqL_ok h, h2] at h4
 rw [← ptr_inj h4] at h3
 exact ⟨bx, h1, inout_bx h3⟩
theorem fin_ok (henv : envOK P E = true) {D : FnD} {fn : Func} (hrv : D.rv = fn.results.toList) {r : (D.res.T.app D.par.inout.T).D} (h : fin E D s = some r) {Z : Nat → Prop} {γ : Nat → Value} {bs : List Nat} (hi : Inv w0 (· ∈ bs) Z0 w Z γ s.ob)
  (hs : SlotsOK w Z γ s.ob s.sl a.tmps) {args : List Value} (hio : All2 (SlotOK w Z γ s.ob) (D.par.refP 0) (D.par.io args)) (hid : ∃ bx, D.par.inout.Bx w0 (D.par.io args) bx ∧ (pickB D.par.inout.bxs (D.par.keep (upto D.par.cnt))).map γ = bx.map ptrV) :
  ∃ v, (results fn a.tmps).run P w = .ok v w ∧ Back D w0 Z0 args bs r v w := by
 unfold fin at h
 split at h
 ·cases h
 ·rename_i sl hsl
  rw [hrv] at hsl
  obtain ⟨vs, hr, hvs⟩ := resSlots_ok henv hi hs hsl
  refine ⟨_, run_results hr, ?_⟩
  split at h
  ·rename_i hnil
   split at h
   ·rename_i y nb hy
    split at h
    ·rename_i hnd
     cases h
     rw [Bool.and_eq_true] at hnd
     obtain ⟨hnd, hidn⟩ := hnd
     have hsl2 : sl = [.lf .np] ∧ D.opt = true ∧ D.res.T.nilB D.res.T.nilD = true := by
      unfold resNil at hnil
      split at hnil
      ·rw [Bool.and_eq_true] at hnil
       exact ⟨rfl, hnil.1, hnil.2⟩
      ·cases hnil
     obtain ⟨e1, ho, hn⟩ := hsl2
     subst e1
     match vs, hvs with
     | [v], hvs =>
      have hv : v = .pointer none := hvs.1
      subst hv
      let Zc : Nat → Prop := fun k => Z k ∨ ∃ q ∈ rowNames (D.par.inout.valsA s.ob (D.par.refP 0)), (look s.ob q).isSome = true ∧ blkV (γ q) = some k
      obtain ⟨h3, h4, _⟩ := takeA_ok (Z' := Zc) hi.obs (fun k hk => .inl hk) hy hio fun q hq hl k hk => .inr ⟨q, hq, hl, hk⟩
      have hnd' := nodupB_ok hnd
      obtain ⟨hnd1, _, hnd2⟩ := List.nodup_append.1 hnd'
      have hlive : ∀ n ∈ nb, ∃ o, look s.ob n = some o := kok_live h4
      refine ⟨Zc, [], blks (nb.map γ), hi.frm, ?_, ?_, by rw [join_snd]; exact h3, ?_, ?_, idn_back hi.obs hy hio hid hidn⟩
      ·rintro b (hz | ⟨q, hq, hql, hqb⟩)
       ·exact ⟨hi.zlt b hz, hi.zold b hz⟩
       ·obtain ⟨o, ho⟩ := Option.isSome_iff_exists.1 hql
        exact ⟨ob_lt (hi.obs q o ho) hqb, fun hlt => .inr ((hi.own q o b ho hqb).2 hlt)⟩
      ·unfold ResOK
       rw [if_pos ho, join_fst]
       exact .inl ⟨hn, rfl, rfl⟩
      ·rw [List.append_nil]
       refine blks_nodup hnd1 fun n m b hn hm h5 h6 => ?_
       obtain ⟨o, ho⟩ := hlive n hn
       obtain ⟨o', ho'⟩ := hlive m hm
       exact hi.disj n m o o' b ho ho' h5 h6
      ·intro b hb
       rw [List.append_nil] at hb
       obtain ⟨n, hn, hbn⟩ := mem_blks.1 hb
       obtain ⟨o, ho⟩ := hlive n hn
       refine ⟨?_, (hi.own n o b ho hbn).2⟩
       rintro (hz | ⟨q, hq, hql, hqb⟩)
       ·exact (hi.own n o b ho hbn).1 hz
       ·obtain ⟨o', ho'⟩ := Option.isSome_iff_exists.1 hql
        have := hi.disj n q o o' b ho ho' hbn hqb
        subst this
        exact hnd2 n hn n (mem_dedup _ [] (.inr hq)) rfl
     | [], hvs => exact hvs.elim
     | _ :: _ :: _, hvs => exact hvs.2.elim
    ·cases h
   ·cases h
  ·split at h
   ·rename_i x na y nb hx hy
    split at h
    ·rename_i hnd
     cases h
     rw [Bool.and_eq_true] at hnd
     obtain ⟨hnd, hidn⟩ := hnd
     rw [Bool.and_eq_true] at hnd
     obtain ⟨hnd, hosh⟩ := hnd
     have hvs' : ∃ vs', All2 (SlotOK w Z γ s.ob) (resArgs D sl) vs' ∧ (if D.opt = true then vs' = .bool false :: vs else vs' = vs) := by
      unfold resArgs
      split
      ·exact ⟨.bool false :: vs, ⟨rfl, hvs⟩, rfl⟩
      ·exact ⟨vs, hvs, rfl⟩
     obtain ⟨vs', hvs', hvv⟩ := hvs'
     let Zc : Nat → Prop := fun k => Z k ∨ ∃ q ∈ rowNames (D.res.valsA s.ob (resArgs D sl) ++ D.par.inout.valsA s.ob (D.par.refP 0)), (look s.ob q).isSome = true ∧ blkV (γ q) = some k
     obtain ⟨h1, h2, _⟩ := takeA_ok (Z' := Zc) hi.obs (fun k hk => .inl hk) hx hvs' fun q hq hl k hk => .inr ⟨q, by rw [rowNames_append]; exact List.mem_append_left _ hq, hl, hk⟩
     obtain ⟨h3, h4, _⟩ := takeA_ok (Z' := Zc) hi.obs (fun k hk => .inl hk) hy hio fun q hq hl k hk => .inr ⟨q, by rw [rowNames_append]; exact List.mem_append_right _ hq, hl, hk⟩
     have hnd' := nodupB_ok hnd
     obtain ⟨hnd1, _, hnd2⟩ := List.nodup_append.1 hnd'
     have hlive : ∀ n ∈ nb ++ na, ∃ o, look s.ob n = some o := fun n hn => (List.mem_append.1 hn).elim (kok_live h4 n) (kok_live h2 n)
     have hnd3 : (nb ++ na).Nodup := (List.perm_append_comm (l₁ := na) (l₂ := nb)).nodup_iff.1 hnd1
     refine ⟨Zc, blks (na.map γ), blks (nb.map γ), hi.frm, ?_, ?_, by rw [join_snd]; exact h3, ?_, ?_, idn_back hi.obs hy hio hid hidn⟩
     ·rintro b (hz | ⟨q, hq, hql, hqb⟩)
      ·exact ⟨hi.zlt b hz, hi.zold b hz⟩
      ·obtain ⟨o, ho⟩ := Option.isSome_iff_exists.1 hql
       exact ⟨ob_lt (hi.obs q o ho) hqb, fun hlt => .inr ((hi.own q o b ho hqb).2 hlt)⟩
     ·unfold ResOK
      split
      ·rename_i ho
       rw [if_pos ho] at hvv
       rw [join_fst]
       subst hvv
       rw [ho] at hosh
       obtain ⟨hn, v, rfl⟩ := optSh_rep (by simpa using hosh) h1
       exact .inr ⟨hn, _, h1⟩
      ·rename_i ho
       rw [if_neg ho] at hvv
       subst hvv
       rw [join_fst]
       exact ⟨_, rfl, h1⟩
     ·rw [← blks_append, ← List.map_append]
      refine blks_nodup hnd3 fun n m b hn hm h5 h6 => ?_
      obtain ⟨o, ho⟩ := hlive n hn
      obtain ⟨o', ho'⟩ := hlive m hm
      exact hi.disj n m o o' b ho ho' h5 h6
     ·intro b hb
      rw [← blks_append, ← List.map_append] at hb
      obtain ⟨n, hn, hbn⟩ := mem_blks.1 hb
      obtain ⟨o, ho⟩ := hlive n hn
      refine ⟨?_, (hi.own n o b ho hbn).2⟩
      rintro (hz | ⟨q, hq, hql, hqb⟩)
      ·exact (hi.own n o b ho hbn).1 hz
      ·obtain ⟨o', ho'⟩ := Option.isSome_iff_exists.1 hql
       have := hi.disj n q o o' b ho ho' hbn hqb
       subst this
       exact hnd2 n (List.mem_append.2 (List.mem_append.1 hn).symm) n (mem_dedup _ [] (.inr hq)) rfl
    ·cases h
   ·cases h
end
end Go.GV
namespace Go.GV
mutual
def Sh.okB : Sh → Bool
 | .fn _ l => l.allBox && l.okB
 | .box _ l => l.okB
 | .val _ => true
 | .own _ _ => true
 | .mv _ _ => true
 | .rcd l => l.flat && l.okB
def Shs.okB : Shs → Bool
 | .nil => true
 | .cons s l => s.okB && l.okB
end
mutual
theorem mk_some : ∀ {s : Sh} {x : s.T.D} {n k : Nat}, s.okB = true → s.cnt ≤ k → ∃ y, s.mk (List.range' n k) x = some y
 | .val t, x, n, k, _, _ => ⟨_, rfl⟩
 | .own e t, x, n, k + 1, _, _ => ⟨_, rfl⟩
 | .mv e t, x, n, k + 1, _, _ => ⟨_, rfl⟩
 | .box T sh, x, n, k + 1, h, hk => by
  obtain ⟨y, hy⟩ := mks_some (s := sh) (x := x) (n := n + 1) (k := k) h (by simp only [Sh.cnt] at hk; omega)
  simp only [Sh.mk, List.range'_succ, hy]
  exact ⟨_, rfl⟩
 | .fn f sh, x, n, k, h, hk => by
  simp only [Sh.okB, Bool.and_eq_true] at h
  obtain ⟨y, hy⟩ := mks_some (s := sh) (x := x) (n := n) (k := k) h.2 hk
  simp only [Sh.mk, h.1, if_true, hy]
  exact ⟨_, rfl⟩
 | .rcd sh, x, n, k, h, hk => by
  simp only [Sh.okB, Bool.and_eq_true] at h
  obtain ⟨y, hy⟩ := mks_some (s := sh) (x := x) (n := n) (k := k) h.2 hk
  simp only [Sh.mk, h.1, if_true, hy]
  exact ⟨_, rfl⟩
 | .own _ _, _, _, 0, _, hk => by simp [Sh.cnt] at hk
 | .mv _ _, _, _, 0, _, hk => by simp [Sh.cnt] at hk
 | .box _ _, _, _, 0, _, hk => by simp [Sh.cnt] at hk
theorem mks_some : ∀ {s : Shs} {x : s.T.D} {n k : Nat}, s.okB = true → s.cnt ≤ k → ∃ y, s.mk (List.range' n k) x = some y
 | .nil, _, _, _, _, _ => ⟨_, rfl⟩
 | .cons s l, x, n, k, h, hk => by
  simp only [Shs.okB, Bool.and_eq_true] at h
  simp only [Shs.cnt] at hk
  obtain ⟨⟨c, ob, rest⟩, hy⟩ := mk_some (s := s) (x := x.1) (n := n) (k := k) h.1 (by omega)
  obtain ⟨_, h2, _⟩ := mk_rest hy
  subst h2
  obtain ⟨⟨c2, ob2, rest2⟩, hy2⟩ := mks_some (s := l) (x := x.2) (n := n + s.cnt) (k := k - s.cnt) h.2 (by omega)
  simp only [Shs.mk, hy, hy2]
  exact ⟨_, rfl⟩
end
theorem mkA_rest : ∀ {s : Shs} {x : s.T.D} {n : Nat} {c : List (Bool × List Lf)} {ob : List (Nat × Ob)} {rest : List Nat}, s.mkA (List.range' n s.cnt) x = some (c, ob, rest) → rest = []
 | s, x, n, c, ob, rest, h => by
  have key : ∀ {s : Shs} {x : s.T.D} {n k : Nat} {c : List (Bool × List Lf)} {ob : List (Nat × Ob)} {rest : List Nat}, s.mkA (List.range' n k) x = some (c, ob, rest) → rest = List.range' (n + s.cnt) (k - s.cnt) := by
   intro s
   induction s using Shs.rec (motive_1 := fun _ => True) with
   | nil => intro x n k c ob rest h; simp only [Shs.mkA] at h; cases h; rfl
   | cons s l _ ih =>
    intro x n k c ob rest h
    simp only [Shs.mkA] at h
    split at h
    ·rename_i c1 ob1 m1 h1
     split at h
     ·rename_i c2 ob2 m2 h2
      cases h
      obtain ⟨_, h4, _⟩ := mk_rest h1
      subst h4
      rw [ih h2]
      simp only [Shs.cnt]
      congr 1 <;> omega
     ·cases h
    ·cases h
   | _ => trivial
  rw [key h, Nat.sub_self]
  rfl
theorem mkA_some : ∀ {s : Shs} {x : s.T.D} {n k : Nat}, s.okB = true → s.cnt ≤ k → ∃ y, s.mkA (List.range' n k) x = some y
 | .nil, _, _, _, _, _ => ⟨_, rfl⟩
 | .cons s l, x, n, k, h, hk => by
  simp only [Shs.okB, Bool.and_eq_true] at h
  simp only [Shs.cnt] at hk
  obtain ⟨⟨c, ob, rest⟩, hy⟩ := mk_some (s := s) (x := x.1) (n := n) (k := k) h.1 (by omega)
  obtain ⟨_, h2, _⟩ := mk_rest hy
  subst h2
  obtain ⟨⟨c2, ob2, rest2⟩, hy2⟩ := mkA_some (s := l) (x := x.2) (n := n + s.cnt) (k := k - s.cnt) h.2 (by omega)
  simp only [Shs.mkA, hy, hy2]
  exact ⟨_, rfl⟩
def Shs.len : Shs → Nat
 | .nil => 0
 | .cons _ l => l.len + 1
theorem repA_len {w : World} {Z : Nat → Prop} : ∀ {s : Shs} {x : s.T.D} {vs : List Value} {bs : List Nat}, s.RepA w Z x vs bs → vs.length = s.len
 | .nil, _, _, _, h => by rw [h.1]; rfl
 | .cons s l, _, _, _, ⟨v, vs', c, d, e, _, _, h⟩ => by rw [e, List.length_cons, repA_len h]; rfl
structure CardOK (P : Program) (D : FnD) (c : Code) : Prop where
 fn : ∃ fn, P.funcs[D.fid]? = some fn ∧ fn.body = some c ∧ (fn.name == "runtime.NumGoroutine") = false ∧ fn.ntmps = D.n ∧ fn.results.toList = D.rv
 body : D.body = some c
 cnt : D.par.cnt ≤ 1000
 okB : D.par.okB = true
 len : D.par.len ≤ D.n
 wf : D.an.wf = true
 lab : nodupB (0 :: (places c D.an []).map (·.1)) = true
section
variable {P : Program} {E : Env} {GB : Nat → Prop} {G : World → Prop} {w0 : World} {M Z0 : Nat → Prop} {γ0 : Nat → Value} {m : Nat} {D : FnD} {c : Code}
theorem look_of_mem {α : Type} : ∀ {l : List (Nat × α)} {n : Nat} {x : α}, (l.map (·.1)).Nodup → (n, x) ∈ l → look l n = some x
 | [], _, _, _, h => by cases h
 | (k, y) :: l, n, x, hnd, h => by
  simp only [List.map_cons, List.nodup_cons] at hnd
  simp only [look]
  rcases List.mem_cons.1 h with h | h
  ·cases h
   rw [if_pos (beqt.2 rfl)]
  ·have hne : ¬ k = n := by
    rintro rfl
    exact hnd.1 (List.mem_map.2 ⟨_, h, rfl⟩)
   rw [if_neg (fun hb => hne (beqt.1 hb))]
   exact look_of_mem hnd.2 h
theorem CardOK.code (hc : CardOK P D c) : D.code 0 = [.c c D.an] ∧ ∀ i l, (i, l) ∈ places c D.an [] → D.code i = l := by
 have hnd := nodupB_ok hc.lab
 obtain ⟨h1, h2⟩ := List.nodup_cons.1 hnd
 refine ⟨by simp [FnD.code, hc.body], fun i l h => ?_⟩
 have hi : ¬ i = 0 := by
  rintro rfl
  exact h1 (List.mem_map.2 ⟨_, h, rfl⟩)
 simp only [FnD.code, hc.body]
 rw [if_neg (fun hb => hi (beqt.1 hb)), look_of_mem h2 h]
noncomputable def bodyD (E : Env) (ev : Ev E) (D : FnD) (go : Nat → St → Option (D.res.T.app D.par.inout.T).D) (i : Nat) (s : St) : Option (D.res.T.app D.par.inout.T).D :=
 run E ev D.par.cnt 100000 go (fun s => fin E D s) (D.code i) s
theorem bodyD_ok (henv : envOK P E = true) (hinl : E.inl = []) (hmix : P.follows .mixedOrders = true) (hst : Stable GB G) (hG : G w0) (hGB : ∀ b, GB b → b < w0.heap.size ∧ ¬ M b) {ev : Ev E} (hev : EvOK P GB G E ev) (hc : CardOK P D c) {b : Frame} {cs : List Frame} {Post : Act → World → Prop}
  {go : Nat → St → Option (D.res.T.app D.par.inout.T).D} {r : (D.res.T.app D.par.inout.T).D}
  (hfi : ∀ s a w, fin E D s = some r → Good w0 M Z0 γ0 D.par.cnt s a w → Post a w)
  (hgo : ∀ i s l, (i, l) ∈ places c D.an [] → go i s = some r → ∀ a w, Good w0 M Z0 γ0 D.par.cnt s a w → ∀ k, ItOK l k → Ends P b cs Post k a w)
  {i : Nat} {l : List It} (hl : (i = 0 ∧ l = [.c c D.an]) ∨ (i, l) ∈ places c D.an []) {s : St} (h : bodyD E ev D go i s = some r) {a : Act} {w : World} (hg : Good w0 M Z0 γ0 D.par.cnt s a w) {k : List Item} (hk : ItOK l k) : Ends P b cs Post k a w := by
 obtain ⟨h0, h1⟩ := hc.code
 have hpos : Pos (places c D.an []) [.c c D.an] := ⟨fun _ hp => hp, hc.wf, trivial⟩
 have hpl := places_pos (T := places c D.an []) c D.an [] hc.wf (fun _ hp => hp) trivial
 have hcode : D.code i = l ∧ Pos (places c D.an []) l := by
  rcases hl with ⟨rfl, rfl⟩ | hl
  ·exact ⟨h0, hpos⟩
  ·exact ⟨h1 i l hl, hpl i l hl⟩
 unfold bodyD at h
 rw [hcode.1] at h
 exact run_ok henv hinl hmix hst hG hGB hc.cnt hev hfi (fun i s l hm hgo' _ a w hg k hk => hgo i s l hm hgo' a w hg k hk) hpl (fun s k s' a w h hg => at_ok hc.cnt h hg) 100000 l k s a w h hk hcode.2 hg
def evOf (E : Env) (st : Ev E) (R : (f : Nat) → Nat → St → Option (E.resT f).D) : Ev E := fun g x => match h : look E.fn g with
 | none => none
 | some D => match D.body with
  | none => st g x
  | some _ => R g 0 (start D (cast (by rw [Env.argT, h]) x))
noncomputable def rn (E : Env) (st : Ev E) : Nat → (f : Nat) → Nat → St → Option (E.resT f).D
 | 0, _, _, _ => none
 | n + 1, f, i, s => match h : look E.fn f with
  | none => none
  | some D => cast (by rw [Env.resT, h]) (bodyD E (evOf E st (rn E st n)) D (fun i s => cast (by rw [Env.resT, h]) (rn E st n f i s)) i s)
theorem cast_some {A B : Type} (h : A = B) {x : Option A} {r : A} (e : cast (by rw [h]) x = some (cast h r)) : x = some r := by subst h; exact e
theorem cast_some' {A B : Type} (h : A = B) {x : Option A} {r : B} (e : cast (by rw [h]) x = some r) : x = some (cast h.symm r) := by subst h; exact e
theorem start_ok (hc : CardOK P D c) {x : D.par.T.D} {w : World} {Z : Nat → Prop} {args : List Value} {bs : List Nat} (hz : ∀ b, Z b → b < w.heap.size) (hnd : bs.Nodup) (hbs : ∀ b ∈ bs, ¬ Z b ∧ b < w.heap.size) (h : D.par.RepA w Z x args bs) (hsz : args.length ≤ D.n) :
  ∃ γ0, Good w (· ∈ bs) Z γ0 D.par.cnt (start D x) { tmps := args.toArray ++ Array.replicate (D.n - args.toArray.size) undef, defers := [] } w ∧
   All2 (fun y v => (∀ w' Z' ob', SlotOK w' Z' γ0 ob' y v) ∧ ∀ j, y.names j = true → j < D.par.cnt) (D.par.refP 0) (D.par.io args) ∧ ∃ bx, D.par.inout.Bx w (D.par.io args) bx ∧ (pickB D.par.inout.bxs (D.par.keep (upto D.par.cnt))).map γ0 = bx.map ptrV := by
 obtain ⟨⟨cl, ob, rest⟩, hy⟩ := mkA_some (s := D.par) (x := x) (n := 0) (k := D.par.cnt) hc.okB (Nat.le_refl _)
 obtain ⟨used, us, e1, h1, h2, h3, h4, h5⟩ := mkA_ok h hy
 have hndu : used.Nodup := by
  have := upto_nodup D.par.cnt
  rw [upto_range, e1] at this
  exact (List.nodup_append.1 this).1
 have hmap := upds_in (fun _ => undef) (vs := us) hndu h1
 obtain ⟨γ0, hγ0⟩ : ∃ γ0, γ0 = upds (fun _ => undef) used us := ⟨_, rfl⟩
 rw [← hγ0] at hmap
 obtain ⟨h6, h7⟩ := h5 γ0 hmap
 have hst : start D x = ⟨cl.map slotOf ++ List.replicate (D.n - cl.length) (.lf .un), ob, 1000⟩ := by
  unfold start
  rw [upto_range, hy]
 have hlk : ∀ n o, look ob n = some o → (n, o) ∈ ob ∧ n ∈ used := fun n o h => ⟨look_mem h, by rw [← h3]; exact List.mem_map.2 ⟨_, look_mem h, rfl⟩⟩
 refine ⟨γ0, ?_, refP_ok hy h6 D.par.cnt (by omega), by
  have e2 : upto D.par.cnt = used := by
   have hl2 := congrArg List.length e1
   rw [List.length_range', List.length_append] at hl2
   have hr : rest = [] := mkA_rest hy
   rw [upto_range, e1, hr, List.append_nil]
  obtain ⟨hl3, bx, g1, g2⟩ := mkA_bx (w := w) (Z := Z) (γ := γ0) hy h6 h7
  rw [h3, ← e2] at g2
  exact io_bx g1 g2 (by rw [e2, ← h3, List.length_map, hl3])⟩
 rw [hst]
 have hlen := All2.length h6
 refine ⟨⟨Z, γ0, ⟨Frm.refl _ _, hz, fun b hb _ => .inl hb, fun n o h => h7 n o (hlk n o h).1, ?_, ?_⟩, ⟨by simp [hlen], fun i => ?_⟩, fun _ _ => rfl⟩, Nat.le_refl _, rfl⟩
 ·intro n m o o' b h h' hb hb'
  exact blks_disj (l := used) (by rw [hmap, h2]; exact hnd) n m b (hlk n o h).2 (hlk m o' h').2 hb hb'
 ·intro n o b h hb
  have : b ∈ bs := by
   rw [← h2, ← hmap]
   exact mem_blks.2 ⟨n, (hlk n o h).2, hb⟩
  exact ⟨(hbs b this).1, fun _ => this⟩
 ·simp only [List.getD_eq_getElem?_getD, Array.getD_eq_getD_getElem?]
  by_cases hi : i < cl.length
  ·have hi2 : i < args.length := by omega
   rw [List.getElem?_append_left (by simpa using hi), List.getElem?_map, List.getElem?_eq_getElem hi, Array.getElem?_append_left (by simpa using hi2)]
   simp only [Option.map_some, Option.getD_some, List.getElem?_toArray, List.getElem?_eq_getElem hi2]
   exact slotOf_ok (All2.get i cl[i] args[i] h6 (List.getElem?_eq_getElem hi) (List.getElem?_eq_getElem hi2))
  ·rw [List.getElem?_append_right (by simpa using hi), Array.getElem?_append_right (by simp; omega)]
   rw [List.getElem?_replicate, Array.getElem?_replicate]
   simp only [List.length_map, List.size_toArray, hlen]
   split <;> simp [SlotOK, LfOK]
variable (P GB G E) in
def Claim (st : Ev E) (n : Nat) : Prop := ∀ f D c (hD : look E.fn f = some D), D.body = some c → ∀ (w0 : World) (M Z0 : Nat → Prop) (γ0 : Nat → Value) (b : Frame) (cs : List Frame) (Post : Act → World → Prop) (r : (D.res.T.app D.par.inout.T).D), G w0 → (∀ b, GB b → b < w0.heap.size ∧ ¬ M b) →
 (∀ s a w, fin E D s = some r → Good w0 M Z0 γ0 D.par.cnt s a w → Post a w) → ∀ i l, ((i = 0 ∧ l = [.c c D.an]) ∨ (i, l) ∈ places c D.an []) → ∀ s, rn E st n f i s = some (cast (by rw [Env.resT, hD]) r) →
 ∀ a w, Good w0 M Z0 γ0 D.par.cnt s a w → ∀ k, ItOK l k → Ends P b cs Post k a w
theorem fn_of_claim (henv : envOK P E = true) {st : Ev E} {n : Nat} (hcl : Claim P E GB G st n) {f : Nat} (hD : look E.fn f = some D) (hc : CardOK P D c) {x : D.par.T.D} {r : (D.res.T.app D.par.inout.T).D}
  (h : rn E st n f 0 (start D x) = some (cast (by rw [Env.resT, hD]) r)) : FnB P GB G D x r := by
 obtain ⟨fn, hf1, hf2, hf3, hf4, hf5⟩ := hc.fn
 refine ⟨⟨fn, c, hf1, hf2, hf3⟩, fun w Z args bs hG hGB hz hnd hbs hrep => ?_⟩
 obtain ⟨γ0, hgood, hio, hid⟩ := start_ok hc hz hnd hbs hrep (by rw [repA_len hrep]; exact hc.len)
 intro cs
 let b : Frame := { (default : Frame) with fn := D.fid, kind := .normal }
 have henter : Frame.enter P D.fid args.toArray .normal = b.at { tmps := args.toArray ++ Array.replicate (D.n - args.toArray.size) undef, defers := [] } [.code c] := by
  simp [Frame.enter, Frame.at, hf1, hf2, hf4, b]
 obtain ⟨a', w', todo, hsteps, v, hd, hr, hback⟩ := hcl f D c hD hc.body w (· ∈ bs) Z γ0 b cs (fun a' w' => ∃ v, a'.defers = [] ∧ (results fn a'.tmps).run P w' = .ok v w' ∧ Back D w Z args bs r v w') r hG hGB
  (fun s a' w' hfin hg => by
   obtain ⟨⟨Zf, γf, hi, hs, hγ⟩, _, hd⟩ := hg
   obtain ⟨v, h1, h2⟩ := fin_ok henv hf5.symm hfin hi hs (args := args) (All2.imp (fun y _ v h => SlotOK.keep (Stay.refl w' Zf) (h.1 w' Zf s.ob) fun j hj => ⟨hγ j (h.2 j hj), fun E t xs hx => ⟨E, xs, hx, rfl⟩⟩) hio) (by
    obtain ⟨bx, g1, g2⟩ := hid
    refine ⟨bx, g1, ?_⟩
    rw [← g2]
    refine List.map_congr_left fun j hj => hγ j ?_
    have hj := keep_mem _ _ j (pickB_mem hj)
    rw [upto_range, List.mem_range'] at hj
    omega)
   exact ⟨v, hd, h1, h2⟩) 0 _ (.inl ⟨rfl, rfl⟩) _ h _ w hgood _ (.code .nil)
 rw [← henter] at hsteps
 exact ⟨.returned v, w', _, ⟨v, rfl, hback⟩, hsteps, rfl, rfl, hd, rfl, fn, hf1, hr⟩
theorem claim_all (henv : envOK P E = true) (hsel : SelOK P E) (hinl : E.inl = []) (hmix : P.follows .mixedOrders = true) (hst : Stable GB G) (hcards : ∀ f D c, look E.fn f = some D → D.body = some c → CardOK P D c) {st : Ev E}
  (hstub : ∀ f D (hD : look E.fn f = some D), D.body = none → ∀ x r, st f x = some r → FnOK P GB G D (cast (by rw [Env.argT, hD]) x) (cast (by rw [Env.resT, hD]) r)) : ∀ n, Claim P E GB G st n
 | 0 => fun f D c hD hb w0 M Z0 γ0 b cs Post r hG hGB hfi i l hl s h => by cases h
 | n + 1 => fun f D c hD hb w0 M Z0 γ0 b cs Post r hG hGB hfi i l hl s h a w hg k hk => by
  have ih := claim_all henv hsel hinl hmix hst hcards hstub n
  have hc := hcards f D c hD hb
  simp only [rn] at h
  split at h
  ·simp at h
  ·rename_i D' hD'
   have e : D' = D := Option.some.inj (hD'.symm.trans hD)
   subst e
   have hT : (D'.res.T.app D'.par.inout.T).D = (E.resT f).D := by rw [Env.resT, hD]
   have h' := cast_some hT h
   refine bodyD_ok henv hinl hmix hst hG hGB ?_ hc hfi ?_ hl h' hg hk
   ·refine ⟨hsel, fun g x r' hr' D2 hD2 => ?_⟩
    unfold evOf at hr'
    split at hr'
    ·cases hr'
    ·rename_i D3 hD3
     have e3 : D3 = D2 := Option.some.inj (hD3.symm.trans hD2)
     subst e3
     split at hr'
     ·rename_i hnb
      exact hstub g D3 hD2 hnb x r' hr'
     ·rename_i c3 hc3
      refine .inl (fn_of_claim henv ih hD2 (hcards g D3 c3 hD2 hc3) ?_)
      rw [hr']
      simp
   ·intro j s' l' hm hgo a' w' hg' k' hk'
    exact ih f D' c hD hb w0 M Z0 γ0 b cs Post r hG hGB hfi j l' (.inr hm) s' (cast_some' hT.symm hgo) a' w' hg' k' hk'
end
end Go.GV
namespace Go.GV
def Conv {R : Type} (X : Nat → Option R) (x : Option R) : Prop := ∀ r, x = some r → ∃ N, ∀ n, N ≤ n → X n = some r
theorem Conv.none {R : Type} (X : Nat → Option R) : Conv X none := fun _ h => by cases h
theorem Conv.const {R : Type} (x : Option R) : Conv (fun _ => x) x := fun _ h => ⟨0, fun _ _ => h⟩
section
variable {E : Env} {R : Type}
theorem conv_guards {X : Nat → Option R} {x : Option R} (h : Conv X x) : ∀ g, Conv (fun n => guards g (X n)) (guards g x)
 | [] => h
 | b :: l => by
  cases b with
  | true => exact conv_guards h l
  | false => exact Conv.none _
theorem conv_cps {ev : Nat → Ev E} {evw : Ev E} (hev : ∀ f x, Conv (fun n => ev n f x) (evw f x)) {inl : Nat → FuncId → List Slot → St → (Slot → List (Nat × Ob) → Option R) → Option R} {inlw : FuncId → List Slot → St → (Slot → List (Nat × Ob) → Option R) → Option R}
  {K : Nat → St → Option R} {Kw : St → Option R} (hK : ∀ s, Conv (fun n => K n s) (Kw s)) (s1 : St) (d : Option Nat) (out : Out E) (hni : ∀ f x, out ≠ .inl f x) : Conv (fun n => out.cps (ev n) (inl n) s1 d (K n)) (out.cps evw inlw s1 d Kw) := by
 cases out with
 | go g x ob => exact conv_guards (hK _) g
 | br c x y => cases c <;> exact hK _
 | call f x k =>
  intro r h
  simp only [Out.cps, Option.bind_eq_some_iff] at h
  obtain ⟨r', h1, h2⟩ := h
  obtain ⟨N, hN⟩ := hev f x r' h1
  cases hk : k r' with
  | none => rw [hk] at h2; cases h2
  | some p =>
   rw [hk] at h2
   obtain ⟨N2, hN2⟩ := hK _ r h2
   refine ⟨max N N2, fun n hn => ?_⟩
   simp only [Out.cps, Option.bind_eq_some_iff]
   exact ⟨r', hN n (by omega), by rw [hk]; exact hN2 n (by omega)⟩
 | callN f x k q =>
  intro r h
  simp only [Out.cps, Option.bind_eq_some_iff] at h
  obtain ⟨r', h1, h2⟩ := h
  obtain ⟨N, hN⟩ := hev f x r' h1
  have key : ∀ b : Bool, (match k ((q r').2 b) with | some (y, l) => Kw ((s1.withOb (putAll s1.ob l)).setd d y) | none => none) = some r →
    ∃ N2, ∀ n, N2 ≤ n → (match k ((q r').2 b) with | some (y, l) => K n ((s1.withOb (putAll s1.ob l)).setd d y) | none => none) = some r := by
   intro b h3
   cases hk : k ((q r').2 b) with
   | none => rw [hk] at h3; cases h3
   | some p =>
    rw [hk] at h3
    obtain ⟨N2, hN2⟩ := hK _ r h3
    exact ⟨N2, fun n hn => hN2 n hn⟩
  cases hb : (q r').1 with
  | true =>
   rw [hb, cond_true] at h2
   obtain ⟨N2, hN2⟩ := key true h2
   refine ⟨max N N2, fun n hn => ?_⟩
   simp only [Out.cps, Option.bind_eq_some_iff]
   exact ⟨r', hN n (by omega), by rw [hb, cond_true]; exact hN2 n (by omega)⟩
  | false =>
   rw [hb, cond_false] at h2
   obtain ⟨N2, hN2⟩ := key false h2
   refine ⟨max N N2, fun n hn => ?_⟩
   simp only [Out.cps, Option.bind_eq_some_iff]
   exact ⟨r', hN n (by omega), by rw [hb, cond_false]; exact hN2 n (by omega)⟩
 | inl f x => exact absurd rfl (hni f x)
theorem conv_sel {K : Nat → Option Nat → Option R} {Kw : Option Nat → Option R} (hK : ∀ q, Conv (fun n => K n q) (Kw q)) {y : ByteArray} : ∀ l : List (ByteArray × Nat), Conv (fun n => selK l y (K n)) (selK l y Kw)
 | [] => hK none
 | (c, off) :: l => by
  unfold selK
  cases (y.toList == c.toList) with
  | true => exact hK _
  | false => exact conv_sel hK l
theorem conv_nil {K : Nat → Bool → Option R} {Kw : Bool → Option R} (hK : ∀ q, Conv (fun n => K n q) (Kw q)) (g e : Bool) : Conv (fun n => nilK g e (K n)) (nilK g e Kw) := by
 cases g with
 | true => exact hK _
 | false =>
  intro r h
  have h : agree (Kw e) (Kw (!e)) = some r := h
  unfold agree at h
  split at h
  ·rename_i hq
   obtain ⟨N, hN⟩ := hK e r h
   obtain ⟨N2, hN2⟩ := hK (!e) r (hq ▸ h)
   refine ⟨max N N2, fun n hn => ?_⟩
   show agree (K n e) (K n (!e)) = some r
   have h1 : K n e = some r := hN n (by omega)
   have h2 : K n (!e) = some r := hN2 n (by omega)
   unfold agree
   rw [h1, h2, if_pos rfl]
  ·cases h
theorem conv_step {ev : Nat → Ev E} {evw : Ev E} (hev : ∀ f x, Conv (fun n => ev n f x) (evw f x)) {inl : Nat → FuncId → List Slot → St → (Slot → List (Nat × Ob) → Option R) → Option R} {inlw : FuncId → List Slot → St → (Slot → List (Nat × Ob) → Option R) → Option R}
  (hinl : E.inl = []) {K : Nat → St → Option R} {Kw : St → Option R} (hK : ∀ s, Conv (fun n => K n s) (Kw s)) (s : St) (o : Oper) : Conv (fun n => stepK E (ev n) (inl n) s o (K n)) (stepK E evw inlw s o Kw) := by
 have hcall : ∀ {s s1 : St} {d : Option Nat} {f : FuncId} {xs : List Operand} {caps : List Slot} {out : Out E}, callOut E s d f xs caps = some (s1, out) → ∀ f x, out ≠ .inl f x := by
  intro s s1 d f xs caps out h f' x e
  obtain ⟨_, _, _, _, e2⟩ := callOut_go hinl h
  rw [e] at e2
  rcases e2 with e2 | e2 <;> cases e2
 unfold stepK
 cases hs : step E s o with
 | none =>
  dsimp only
  cases hiv : invk E s o with
  | none =>
   dsimp only
   cases selC E s o with
   | none =>
    dsimp only
    cases nilC E s o with
    | none => exact Conv.none _
    | some q => exact conv_nil (fun q => hK _) q.1 q.2
   | some q =>
    obtain ⟨b, y, l⟩ := q
    exact conv_sel (fun q => hK _) l
  | some q =>
   obtain ⟨r, f, s0, xs⟩ := q
   dsimp only
   cases hc : callOut E s0 o.dst f xs [] with
   | none => exact Conv.none _
   | some p =>
    obtain ⟨s1, out⟩ := p
    dsimp only
    split
    ·exact conv_cps hev (K := fun n s' => K n (s'.set r (.lf .u))) (Kw := fun s' => Kw (s'.set r (.lf .u))) (fun s => hK _) s1 o.dst out (hcall hc)
    ·exact Conv.none _
 | some p =>
  obtain ⟨s1, out⟩ := p
  dsimp only
  split
  ·refine conv_cps hev hK s1 o.dst out ?_
   rcases step_cases hs with ⟨g, x, ob, e⟩ | ⟨c, y, z, ho⟩ | ⟨c, y, ho, hc⟩
   ·rw [e]; intro f x e2; cases e2
   ·simp only [step, ho] at hs
    split at hs <;> cases hs
    intro f x e2; cases e2
   ·cases y with
    | func f =>
     simp only [step, ho, hc] at hs
     exact hcall hs
    | global g => simp only [step, ho, hc, St.opnd] at hs; cases hs
    | tmp t =>
     simp only [step, ho, hc] at hs
     split at hs
     ·split at hs
      ·exact hcall hs
      ·cases hs
     ·cases hs
    | const v =>
     simp only [step, ho, hc] at hs
     split at hs
     ·split at hs
      ·exact hcall hs
      ·cases hs
     ·cases hs
  ·exact Conv.none _
theorem conv_ops {ev : Nat → Ev E} {evw : Ev E} (hev : ∀ f x, Conv (fun n => ev n f x) (evw f x)) {inl : Nat → FuncId → List Slot → St → (Slot → List (Nat × Ob) → Option R) → Option R} {inlw : FuncId → List Slot → St → (Slot → List (Nat × Ob) → Option R) → Option R}
  (hinl : E.inl = []) {ops : Array Oper} {K : Nat → St → Option R} {Kw : St → Option R} (hK : ∀ s, Conv (fun n => K n s) (Kw s)) : ∀ (l : List Oper) (s : St), Conv (fun n => opsK E (ev n) (inl n) ops l s (K n)) (opsK E evw inlw ops l s Kw)
 | [], s => hK s
 | o :: l, s => by
  have ih := conv_ops hev (inl := inl) (inlw := inlw) hinl (ops := ops) hK l
  have hs := fun s => conv_step hev (inl := inl) (inlw := inlw) hinl ih s o
  simp only [opsK]
  cases o.guard with
  | none => exact hs s
  | some jw =>
   obtain ⟨j, want⟩ := jw
   dsimp only
   split
   ·split
    ·exact ih _
    ·rename_i c _
     cases c <;> cases want <;> first | exact hs _ | exact ih _
    ·exact Conv.none _
   ·exact Conv.none _
theorem conv_stepE {ev : Nat → Ev E} {evw : Ev E} (hev : ∀ f x, Conv (fun n => ev n f x) (evw f x)) {K : Nat → St → Ent → Option R} {Kw : St → Ent → Option R} (hK : ∀ s e, Conv (fun n => K n s e) (Kw s e)) (s : St) (o : Oper) : Conv (fun n => stepE E (ev n) s o (K n)) (stepE E evw s o Kw) := by
 unfold stepE
 cases hs : step E s o with
 | none => exact Conv.none _
 | some p =>
  obtain ⟨s1, out⟩ := p
  dsimp only
  split
  ·cases out with
   | go g x ob =>
    dsimp only
    split
    ·exact conv_guards (hK _ _) g
    ·exact Conv.none _
   | br c x y => cases c <;> exact hK _ _
   | call f x k =>
    dsimp only
    split
    ·intro r h
     rw [Option.bind_eq_some_iff] at h
     obtain ⟨r', h1, h2⟩ := h
     obtain ⟨N, hN⟩ := hev f x r' h1
     cases hk : k r' with
     | none => rw [hk] at h2; cases h2
     | some p =>
      rw [hk] at h2
      obtain ⟨N2, hN2⟩ := hK _ _ r h2
      refine ⟨max N N2, fun n hn => ?_⟩
      rw [Option.bind_eq_some_iff]
      exact ⟨r', hN n (by omega), by rw [hk]; exact hN2 n (by omega)⟩
    ·exact Conv.none _
   | callN f x k q => exact Conv.none _
   | inl f x => exact Conv.none _
  ·exact Conv.none _
theorem conv_opE {ev : Nat → Ev E} {evw : Ev E} (hev : ∀ f x, Conv (fun n => ev n f x) (evw f x)) {ops : Array Oper} {K : Nat → St → Ent → Option R} {Kw : St → Ent → Option R} (hK : ∀ s e, Conv (fun n => K n s e) (Kw s e)) (s : St) (o : Oper) : Conv (fun n => opE E (ev n) ops o s (K n)) (opE E evw ops o s Kw) := by
 have hs := fun s => conv_stepE hev hK s o
 simp only [opE]
 cases o.guard with
 | none => exact hs s
 | some jw =>
  obtain ⟨j, want⟩ := jw
  dsimp only
  split
  ·split
   ·exact hK _ _
   ·rename_i c _
    cases c <;> cases want <;> first | exact hs _ | exact hK _ _
   ·exact Conv.none _
  ·exact Conv.none _
theorem conv_draw {ev : Nat → Ev E} {evw : Ev E} (hev : ∀ f x, Conv (fun n => ev n f x) (evw f x)) {ops : Array Oper} {K : Nat → St → Option R} {Kw : St → Option R} (hK : ∀ s, Conv (fun n => K n s) (Kw s)) :
  ∀ (l : List Oper) (acc : List Nat) (s : St) (lg : List (Nat × Oper × Ent)), Conv (fun n => drawK E (ev n) ops l acc s lg (K n)) (drawK E evw ops l acc s lg Kw)
 | [], acc, s, lg => hK s
 | o :: l, acc, s, lg => by
  have ih := conv_draw hev (ops := ops) hK l
  simp only [drawK]
  split
  ·refine conv_opE hev (fun s' e => ?_) s o
   split
   ·exact ih _ _ _
   ·exact Conv.none _
  ·exact Conv.none _
theorem conv_run {ev : Nat → Ev E} {evw : Ev E} (hev : ∀ f x, Conv (fun n => ev n f x) (evw f x)) (hinl : E.inl = []) {m : Nat} {go : Nat → Nat → St → Option R} {gow : Nat → St → Option R} (hgo : ∀ i s, Conv (fun n => go n i s) (gow i s)) {fi : St → Option R} :
  ∀ (k : Nat) (l : List It) (s : St), Conv (fun n => run E (ev n) m k (go n) fi l s) (run E evw m k gow fi l s)
 | 0, l, s => by cases l <;> exact Conv.none _
 | k + 1, [], s => Conv.const _
 | k + 1, .endB _ :: l, s => conv_run hev hinl hgo k l s
 | k + 1, .c x a :: l, s => by
  have ih := conv_run hev hinl (m := m) hgo (fi := fi) k
  cases a with
  | at_ i kp an =>
   simp only [run]
   split
   ·exact hgo _ _
   ·exact Conv.none _
  | _ =>
   simp only [run]
   cases x with
   | region id ops draw =>
    dsimp only
    split
    ·exact conv_draw hev (fun s => ih l s) ops.toList [] s []
    ·exact conv_ops hev hinl (fun s => ih l s) ops.toList s
   | cond c x y =>
    dsimp only
    split
    ·rename_i b _
     cases c <;> cases b <;> exact ih _ _
    ·exact Conv.none _
   | exit id =>
    dsimp only
    split
    ·exact ih _ _
    ·exact Conv.none _
   | ret => exact Conv.const _
   | skip => exact ih _ _
   | seq x y => exact ih _ _
   | block id x => exact ih _ _
   | _ => exact Conv.none _
theorem conv_cast {A B : Type} (h : A = B) {X : Nat → Option A} {x : Option A} (hx : Conv X x) : Conv (fun n => cast (congrArg Option h) (X n)) (cast (congrArg Option h) x) := by subst h; exact hx
theorem conv_ev {st : Ev E} {X : Nat → (f : Nat) → Nat → St → Option (E.resT f).D} {Y : (f : Nat) → Nat → St → Option (E.resT f).D} (h : ∀ f i s, Conv (fun n => X n f i s) (Y f i s)) (f : Nat) (x : (E.argT f).D) : Conv (fun n => evOf E st (X n) f x) (evOf E st Y f x) := by
 unfold evOf
 split
 ·exact Conv.none _
 ·split
  ·exact Conv.const _
  ·exact h _ _ _
noncomputable def rnd (E : Env) (st : Ev E) (Y : (f : Nat) → Nat → St → Option (E.resT f).D) (f : Nat) (i : Nat) (s : St) : Option (E.resT f).D := match h : look E.fn f with
 | none => none
 | some D => cast (by rw [Env.resT, h]) (bodyD E (evOf E st Y) D (fun i s => cast (by rw [Env.resT, h]) (Y f i s)) i s)
theorem rn_succ (st : Ev E) (n f i : Nat) (s : St) : rn E st (n + 1) f i s = rnd E st (rn E st n) f i s := rfl
theorem conv_rnd (hinl : E.inl = []) {st : Ev E} {X : Nat → (f : Nat) → Nat → St → Option (E.resT f).D} {Y : (f : Nat) → Nat → St → Option (E.resT f).D} (h : ∀ f i s, Conv (fun n => X n f i s) (Y f i s)) (f i : Nat) (s : St) :
  Conv (fun n => rnd E st (X n) f i s) (rnd E st Y f i s) := by
 unfold rnd
 split
 ·exact Conv.none _
 ·rename_i D hD
  have hT : (E.resT f).D = (D.res.T.app D.par.inout.T).D := by rw [Env.resT, hD]
  exact conv_cast hT.symm (conv_run (conv_ev h) hinl (fun i s => conv_cast hT (h f i s)) _ _ _)
theorem rn_mono (hinl : E.inl = []) (st : Ev E) : ∀ n f i s r, rn E st n f i s = some r → rn E st (n + 1) f i s = some r
 | 0, f, i, s, r, h => by cases h
 | n + 1, f, i, s, r, h => by
  have ih := rn_mono hinl st n
  rw [rn_succ] at h ⊢
  obtain ⟨N, hN⟩ := conv_rnd hinl (X := fun _ => rn E st (n + 1)) (Y := rn E st n) (fun f i s r h => ⟨0, fun _ _ => ih f i s r h⟩) f i s r h
  exact hN N (Nat.le_refl _)
theorem rn_le (hinl : E.inl = []) (st : Ev E) {n n' f i : Nat} {s : St} {r : (E.resT f).D} (h : rn E st n f i s = some r) (hn : n ≤ n') : rn E st n' f i s = some r := by
 induction n' with
 | zero => have : n = 0 := by omega
           subst this; exact h
 | succ k ih =>
  by_cases hk : n ≤ k
  ·exact rn_mono hinl st k f i s r (ih hk)
  ·have : n = k + 1 := by omega
   subst this; exact h
open Classical in
/-- What a place of code comes to. -/
noncomputable def pl (E : Env) (st : Ev E) (f i : Nat) (s : St) : Option (E.resT f).D := if h : ∃ n r, rn E st n f i s = some r then rn E st (Classical.choose h) f i s else none
theorem pl_some (hinl : E.inl = []) {st : Ev E} {f i : Nat} {s : St} {r : (E.resT f).D} : pl E st f i s = some r ↔ ∃ n, rn E st n f i s = some r := by
 unfold pl
 constructor
 ·intro h
  split at h
  ·exact ⟨_, h⟩
  ·cases h
 ·rintro ⟨n, h⟩
  have hx : ∃ n r, rn E st n f i s = some r := ⟨n, r, h⟩
  rw [dif_pos hx]
  obtain ⟨r', h'⟩ := Classical.choose_spec hx
  have h1 := rn_le hinl st h (Nat.le_max_left n (Classical.choose hx))
  have h2 := rn_le hinl st h' (Nat.le_max_right n (Classical.choose hx))
  rw [h1] at h2
  rw [h', h2]
theorem pl_conv (hinl : E.inl = []) (st : Ev E) (f i : Nat) (s : St) : Conv (fun n => rn E st n f i s) (pl E st f i s) := fun r h => by
 obtain ⟨n, hn⟩ := (pl_some hinl).1 h
 exact ⟨n, fun k hk => rn_le hinl st hn hk⟩
theorem pl_eq (hinl : E.inl = []) (st : Ev E) (f i : Nat) (s : St) : pl E st f i s = rnd E st (pl E st) f i s := by
 apply Option.ext
 intro r
 constructor
 ·intro h
  obtain ⟨n, hn⟩ := (pl_some hinl).1 h
  cases n with
  | zero => cases hn
  | succ n =>
   rw [rn_succ] at hn
   obtain ⟨N, hN⟩ := conv_rnd hinl (X := fun _ => pl E st) (Y := rn E st n) (fun f i s r h => ⟨0, fun _ _ => (pl_some hinl).2 ⟨n, h⟩⟩) f i s r hn
   exact hN N (Nat.le_refl _)
 ·intro h
  obtain ⟨N, hN⟩ := conv_rnd hinl (pl_conv hinl st) f i s r h
  exact (pl_some hinl).2 ⟨N + 1, hN N (Nat.le_refl _)⟩
theorem fn_of_pl {P : Program} {GB : Nat → Prop} {G : World → Prop} (henv : envOK P E = true) (hsel : SelOK P E) (hinl : E.inl = []) (hmix : P.follows .mixedOrders = true) (hst : Stable GB G) (hcards : ∀ f D c, look E.fn f = some D → D.body = some c → CardOK P D c) {st : Ev E}
  (hstub : ∀ f D (hD : look E.fn f = some D), D.body = none → ∀ x r, st f x = some r → FnOK P GB G D (cast (by rw [Env.argT, hD]) x) (cast (by rw [Env.resT, hD]) r))
  {f : Nat} {D : FnD} {c : Code} (hD : look E.fn f = some D) (hc : D.body = some c) {x : D.par.T.D} {r : (D.res.T.app D.par.inout.T).D} (h : pl E st f 0 (start D x) = some (cast (by rw [Env.resT, hD]) r)) : FnB P GB G D x r := by
 obtain ⟨n, hn⟩ := (pl_some hinl).1 h
 exact fn_of_claim henv (claim_all henv hsel hinl hmix hst hcards hstub n) hD (hcards f D c hD hc) hn
end
end Go.GV
