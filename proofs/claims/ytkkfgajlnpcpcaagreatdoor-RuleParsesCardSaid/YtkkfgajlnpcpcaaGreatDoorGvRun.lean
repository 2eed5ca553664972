/-
GV: the run of translated code. (This session's own text.)
-/
import Derived.Test.YtkkfgajlnpcpcaaGreatDoorGvCall2
import Derived.Orders
set_option linter.unusedVariables false
set_option linter.unusedSimpArgs false
namespace Go.GV
/-- What a function's contract says: handed x, it hands back r. GB, G: what is known of the program's variables. -/
def FnB (P : Program) (GB : Nat → Prop) (G : World → Prop) (D : FnD) (x : D.par.T.D) (r : (D.res.T.app D.par.inout.T).D) : Prop :=
  (∃ fn c, P.funcs[D.fid]? = some fn ∧ fn.body = some c ∧ (fn.name == "runtime.NumGoroutine") = false) ∧
  ∀ (w : World) (Z : Nat → Prop) (args : List Value) (bs : List Nat), G w → (∀ b, GB b → b < w.heap.size ∧ b ∉ bs) → (∀ b, Z b → b < w.heap.size) → bs.Nodup → (∀ b ∈ bs, ¬ Z b ∧ b < w.heap.size) →
    D.par.RepA w Z x args bs → Calls P D.fid args.toArray w fun e w' => ∃ v, e = .returned v ∧ Back D w Z args bs r v w'
/-- The same of one that the model answers for at once. -/
def FnX (P : Program) (GB : Nat → Prop) (G : World → Prop) (D : FnD) (x : D.par.T.D) (r : (D.res.T.app D.par.inout.T).D) : Prop :=
  ∀ (w : World) (Z : Nat → Prop) (args : List Value) (bs : List Nat), G w → (∀ b, GB b → b < w.heap.size ∧ b ∉ bs) → (∀ b, Z b → b < w.heap.size) → bs.Nodup → (∀ b ∈ bs, ¬ Z b ∧ b < w.heap.size) →
    D.par.RepA w Z x args bs → ∃ v w', (callFunc D.fid args.toArray).run P w = .ok (.value v) w' ∧ Back D w Z args bs r v w'
def FnOK (P : Program) (GB : Nat → Prop) (G : World → Prop) (D : FnD) (x : D.par.T.D) (r : (D.res.T.app D.par.inout.T).D) : Prop := FnB P GB G D x r ∨ FnX P GB G D x r
/-- The facts stay while these blocks do. -/
def Stable (GB : Nat → Prop) (G : World → Prop) : Prop := ∀ w w' : World, w'.os = w.os → w'.tape = w.tape → (∀ b, GB b → w'.heap[b]? = w.heap[b]?) → G w → G w'

section
variable {P : Program} {E : Env} {GB : Nat → Prop} {G : World → Prop} {w0 : World} {M Z0 : Nat → Prop} {γ0 : Nat → Value} {m : Nat}
/-- What holds all along. -/
structure Good (w0 : World) (M Z0 : Nat → Prop) (γ0 : Nat → Value) (m : Nat) (s : St) (a : Act) (w : World) : Prop where
  st : ∃ Z γ, Inv w0 M Z0 w Z γ s.ob ∧ SlotsOK w Z γ s.ob s.sl a.tmps ∧ (∀ n, n < m → γ n = γ0 n)
  b : 1000 ≤ s.b
  d : a.defers = []
theorem setd_ok {w : World} {Z : Nat → Prop} {γ : Nat → Value} {ob : List (Nat × Ob)} {sl : List Slot} {a : Act} {d : Option Nat} {x : Slot} {v : Value} {b : Nat} (h : SlotsOK w Z γ ob sl a.tmps) (hx : SlotOK w Z γ ob x v) :
    SlotsOK w Z γ ob ((⟨sl, ob, b⟩ : St).setd d x).sl (a.put d v).tmps := by
  cases d with
  | none => exact h
  | some j =>
    refine ⟨by simpa [St.setd, St.set, Act.put] using h.len, fun i => ?_⟩
    have hi := h.ok i
    simp only [St.setd, St.set, Act.put, List.getD_eq_getElem?_getD, Array.getD_eq_getD_getElem?] at hi ⊢
    rw [List.getElem?_set, Array.getElem?_setIfInBounds]
    by_cases hij : j = i
    · subst hij
      by_cases hlt : j < sl.length
      · have : j < a.tmps.size := Nat.lt_of_lt_of_le hlt h.len
        simpa [hlt, this] using hx
      · simp only [if_true, hlt, if_false]
        trivial
    · simpa [hij] using hi
theorem setd_same {w : World} {Z : Nat → Prop} {γ : Nat → Value} {ob : List (Nat × Ob)} {sl : List Slot} {tm : Array Value} {j : Nat} {x : Slot} (h : SlotsOK w Z γ ob sl tm) (hx : SlotOK w Z γ ob x (tm.getD j undef)) : SlotsOK w Z γ ob (sl.set j x) tm := by
  refine ⟨by simpa using h.len, fun i => ?_⟩
  have hi := h.ok i
  simp only [List.getD_eq_getElem?_getD] at hi ⊢
  rw [List.getElem?_set]
  by_cases hij : j = i
  · subst hij
    by_cases hlt : j < sl.length
    · simpa [hlt] using hx
    · simp only [if_true, hlt, if_false]; trivial
  · simpa [hij] using hi
theorem setd_ob (s : St) (d : Option Nat) (x : Slot) : (s.setd d x).ob = s.ob ∧ (s.setd d x).b = s.b := by cases d <;> exact ⟨rfl, rfl⟩
theorem put_defers (a : Act) (d : Option Nat) (v : Value) : (a.put d v).defers = a.defers := by cases d <;> rfl
theorem guards_some {R : Type} {r : R} : ∀ {g : List Bool} {x : Option R}, guards g x = some r → g.all id = true ∧ x = some r
  | [], x, h => ⟨rfl, h⟩
  | b :: l, x, h => by
    cases b with
    | false => cases h
    | true =>
      obtain ⟨h1, h2⟩ := guards_some (g := l) h
      exact ⟨by simpa using h1, h2⟩
theorem Good.does {s1 : St} {a : Act} {o : Oper} {x : Slot} {ob' : List (Nat × Ob)} {w : World} (hm : m ≤ 1000) (hb : 1000 ≤ s1.b) (hd : a.defers = []) {γ : Nat → Value} (hγ : ∀ n, n < m → γ n = γ0 n) (h : Does P w0 M Z0 w γ a o s1 x ob') :
    ∃ v w', ((execOp a.eval o).run P w = .ok (.value v) w' ∨ ((execOp a.eval o).run P w = .ok .skip w' ∧ v = undef)) ∧ Good w0 M Z0 γ0 m ((s1.withOb ob').setd o.dst x) (a.put o.dst v) w' := by
  obtain ⟨v, w', Z', γ', hr, hi, hx, hs, hk⟩ := h
  refine ⟨v, w', hr, ⟨⟨Z', γ', by rw [(setd_ob _ _ _).1]; exact hi, ?_, fun n hn => (hk hb n (by omega)).trans (hγ n hn)⟩, by rw [(setd_ob _ _ _).2]; exact hb, by rw [put_defers]; exact hd⟩⟩
  have := setd_ok (b := s1.b) (d := o.dst) hs hx
  rw [(setd_ob _ _ _).1]
  exact this
/-- Which place a text tells, without more. -/
def selF : List (ByteArray × Nat) → ByteArray → Option Nat
  | [], _ => none
  | (c, off) :: l, x => if (x.toList == c.toList) = true then some off else selF l x
def selV (g : Nat) (q : Option Nat) : Value := match q with | some off => .pointer (some ⟨g, off, none⟩) | none => .pointer none
/-- These functions do so. -/
def SelOK (P : Program) (E : Env) : Prop := ∀ f l, look E.sels f = some l → (∃ fn c, P.funcs[f]? = some fn ∧ fn.body = some c ∧ (fn.name == "runtime.NumGoroutine") = false) ∧
  ∀ (g : Nat) (x : ByteArray) (w : World), Calls P f #[.pointer (some ⟨g, 0, none⟩), .string x] w fun e w' => e = .returned (selV g (selF l x)) ∧ w' = w
theorem selK_some {R : Type} {K : Option Nat → Option R} {r : R} {x : ByteArray} : ∀ {l : List (ByteArray × Nat)}, selK l x K = some r → K (selF l x) = some r
  | [], h => h
  | (c, off) :: l, h => by
    unfold selK at h
    unfold selF
    cases hb : (x.toList == c.toList) with
    | true => rw [hb, cond_true] at h; rw [if_pos rfl]; exact h
    | false => rw [hb, cond_false] at h; rw [if_neg (by simp)]; exact selK_some h
/-- What calls come to is so. -/
def EvOK (P : Program) (GB : Nat → Prop) (G : World → Prop) (E : Env) (ev : Ev E) : Prop :=
  SelOK P E ∧ ∀ key x r, ev key x = some r → ∀ D (h : look E.fn key = some D), FnOK P GB G D (cast (by rw [Env.argT, h]) x) (cast (by rw [Env.resT, h]) r)
theorem Good.g {s : St} {a : Act} {w : World} (h : Good w0 M Z0 γ0 m s a w) (hst : Stable GB G) (hG : G w0) (hGB : ∀ b, GB b → b < w0.heap.size ∧ ¬ M b) : G w ∧ ∀ b, GB b → b < w.heap.size := by
  obtain ⟨⟨Z, γ, hi, _⟩, _, _⟩ := h
  exact ⟨hst w0 w hi.frm.os hi.frm.tape (fun b hb => hi.frm.block b (hGB b hb).1 (hGB b hb).2) hG, fun b hb => Nat.lt_of_lt_of_le (hGB b hb).1 hi.frm.size⟩
/-- A result that may be nil: both roads are the one. -/
theorem cps_callN {R : Type} {ev : Ev E} {inl : FuncId → List Slot → St → (Slot → List (Nat × Ob) → Option R) → Option R} {s : St} {d : Option Nat} {K : St → Option R} {r : R} {f : Nat} {x : (E.argT f).D} {k : (E.resT f).D → Option (Slot × List (Nat × Ob))}
    (h : (Out.callN f x k (E.resT f).optQ).cps ev inl s d K = some r) : (Out.call f x k).cps ev inl s d K = some r := by
  simp only [Out.cps, Option.bind_eq_some_iff] at h ⊢
  obtain ⟨r', h1, h2⟩ := h
  refine ⟨r', h1, ?_⟩
  have hq := Tys.optQ_eq (E.resT f) r'
  cases hb : ((E.resT f).optQ r').1 with
  | true =>
    rw [hb] at h2 hq
    rw [cond_true, hq] at h2
    exact h2
  | false =>
    rw [hb] at h2 hq
    rw [cond_false, hq] at h2
    exact h2
theorem do_call' (hst : Stable GB G) (hG : G w0) (hGB : ∀ b, GB b → b < w0.heap.size ∧ ¬ M b) (hm : m ≤ 1000) {R : Type} {ev : Ev E} (hev : EvOK P GB G E ev) {inl : FuncId → List Slot → St → (Slot → List (Nat × Ob) → Option R) → Option R}
    {s s1 : St} {a : Act} {w : World} {o : Oper} {out : Out E} {f : FuncId} {xs : List Operand} {caps : List Slot} {cs : List Nat} (hinl : E.inl = []) (h : callOut E s o.dst f xs caps = some (s1, out)) {K : St → Option R} {r : R} (hr : out.cps ev inl s1 o.dst K = some r)
    (hg : Good w0 M Z0 γ0 m s a w) (hcaps : caps = cs.map fun b => .lf (.p b 0)) {a0 : Act} {F : Act → World → Prop} (hF : ∀ s' v w', K s' = some r → Good w0 M Z0 γ0 m s' (a.put o.dst v) w' → F (a0.put o.dst v) w')
    (hcs : ∀ Z γ, SlotsOK w Z γ s.ob s.sl a.tmps → (∀ b ∈ cs, ∃ g, γ b = .pointer (some ⟨g, 0, none⟩)) ∧ (execOp a0.eval o).run P w = (callFunc f (xs.map a.eval ++ cs.map γ).toArray).run P w) {Q : Exit → Act → World → Prop} :
    o.wp P a0 w F Q := by
  have hGw := hg.g hst hG hGB
  obtain ⟨⟨Z, γ, hi, hs, hγ⟩, hb, hd⟩ := hg
  obtain ⟨hcs1, hrun⟩ := hcs Z γ hs
  unfold callOut at h
  split at h
  · cases h
  · rw [hinl] at h
    simp only [look] at h
    split at h
    · cases h
    · rename_i key _
      split at h
      · cases h
      · rename_i D hD
        split at h
        · rename_i hf
          have hf := beqt.1 hf
          split at h
          · rename_i s2 x k hc
            simp only [Option.some.injEq, Prod.mk.injEq] at h
            obtain ⟨h1, h2⟩ := h
            have hr : (Out.call key (cast (by rw [Env.argT, hD]) x) fun r => k (cast (by rw [Env.resT, hD]) r)).cps ev inl s1 o.dst K = some r := by
              subst h2
              split at hr
              · exact cps_callN hr
              · exact hr
            subst h1
            simp only [Out.cps, Option.bind_eq_some_iff] at hr
            obtain ⟨r', hr1, hr2⟩ := hr
            have hfn := hev.2 key _ r' hr1 D hD
            simp only [cast_cast, cast_eq] at hfn
            obtain ⟨Zc, bs, h3, h4, h5, h6, h7, h8⟩ := callD_ok hc hi hs hb hcaps hcs1
            have hpre : (∀ b, GB b → b < w.heap.size ∧ b ∉ bs) ∧ (∀ b ∈ bs, ¬ Zc b ∧ b < w.heap.size) := ⟨fun b hbb => ⟨hGw.2 b hbb, fun hx => (hGB b hbb).2 ((h5 b hx).2.2 (hGB b hbb).1)⟩, fun b hbb => ⟨(h5 b hbb).1, (h5 b hbb).2.1⟩⟩
            split at hr2
            · rename_i y l hk
              have fin : ∀ v w', Back D w Zc (xs.map a.eval ++ cs.map γ) bs (cast (by rw [Env.resT, hD]) r') v w' → F (a0.put o.dst v) w' := by
                intro v w' hbk
                obtain ⟨Zn, γn, h9, h10, h11, h12⟩ := h8 _ y l v w' hk hbk
                refine hF _ v w' hr2 ⟨⟨Zn, γn, by rw [(setd_ob _ _ _).1]; exact h9, ?_, fun n hn => (h12 n (by omega)).trans (hγ n hn)⟩, by rw [(setd_ob _ _ _).2]; show 1000 ≤ s2.b; omega, by rw [put_defers]; exact hd⟩
                rw [(setd_ob _ _ _).1]
                exact setd_ok h11 h10
              rcases hfn with ⟨⟨fn, c, hfn1, hfn2, hfn3⟩, hcall⟩ | hext
              · have hcalls := hcall w Zc _ bs hGw.1 hpre.1 h6 h4 hpre.2 h3
                unfold Oper.wp
                rw [hrun]
                have hen : (callFunc f (xs.map a.eval ++ cs.map γ).toArray).run P w = .ok (.enter f (xs.map a.eval ++ cs.map γ).toArray) w := by
                  have h1 : fn.name ≠ "runtime.NumGoroutine" := by simpa using hfn3
                  rw [← hf]
                  simp [callFunc, hfn1, h1, hfn2]
                rw [hen, Oper.upon_enter, ← hf]
                refine Calls.mono hcalls fun e w' he => ?_
                obtain ⟨v, rfl, hbk⟩ := he
                exact fin v w' hbk
              · obtain ⟨v, w', hv, hbk⟩ := hext w Zc _ bs hGw.1 hpre.1 h6 h4 hpre.2 h3
                unfold Oper.wp
                rw [hrun, ← hf, hv]
                exact fin v w' hbk
            · cases hr2
          · cases h
        · cases h
theorem do_call (hst : Stable GB G) (hG : G w0) (hGB : ∀ b, GB b → b < w0.heap.size ∧ ¬ M b) (hm : m ≤ 1000) {R : Type} {ev : Ev E} (hev : EvOK P GB G E ev) {inl : FuncId → List Slot → St → (Slot → List (Nat × Ob) → Option R) → Option R}
    {s s1 : St} {a : Act} {w : World} {o : Oper} {out : Out E} {f : FuncId} {xs : List Operand} {caps : List Slot} {cs : List Nat} (hinl : E.inl = []) (h : callOut E s o.dst f xs caps = some (s1, out)) {K : St → Option R} {r : R} (hr : out.cps ev inl s1 o.dst K = some r)
    (hg : Good w0 M Z0 γ0 m s a w) (hcaps : caps = cs.map fun b => .lf (.p b 0)) (hcs : ∀ Z γ, SlotsOK w Z γ s.ob s.sl a.tmps → (∀ b ∈ cs, ∃ g, γ b = .pointer (some ⟨g, 0, none⟩)) ∧ ∀ w', (execOp a.eval o).run P w' = (callFunc f (xs.map a.eval ++ cs.map γ).toArray).run P w') {Q : Exit → Act → World → Prop} :
    o.wp P a w (fun a' w' => ∃ s', K s' = some r ∧ Good w0 M Z0 γ0 m s' a' w') Q :=
  do_call' hst hG hGB hm hev hinl h hr hg hcaps (fun s' _ _ h1 h2 => ⟨s', h1, h2⟩) fun Z γ hs => ⟨(hcs Z γ hs).1, (hcs Z γ hs).2 w⟩
/-- A method of a pointer type, looked up: the receiver is the pointer, or what it leads to. -/
theorem run_method {T : TypeId} {name : String} {f : FuncId} {d : Option TypeId} (h : methOK P (T, name, f, d) = true) (ad : Addr) (w : World) {rv : Value} (hd : match d with | none => rv = .pointer (some ad) | some U => (loadVar U ad).run P w = .ok rv w) (args : Array Value) :
    (callMethod (.iface T (.pointer (some ad))) name args).run P w = (callFunc f (#[rv] ++ args)).run P w := by
  simp only [methOK, Bool.and_eq_true] at h
  obtain ⟨hsz, h⟩ := h
  split at h
  · rename_i i e hi hu
    split at h
    · rename_i mt hmt
      simp only [Bool.and_eq_true] at h
      obtain ⟨hp, h⟩ := h
      split at h
      · rename_i f' ptr hfn
        simp only [Bool.and_eq_true, beqt] at h
        obtain ⟨hf, hk⟩ := h
        subst hf
        have hsz := Nat.le_of_ble_eq_true hsz
        obtain ⟨n, hn⟩ : ∃ n, P.types.size + Made.depth = n + 1 := ⟨P.types.size + Made.depth - 1, by omega⟩
        have hpath : mt.path = #[] := by simpa using hp
        unfold callMethod
        simp only [Sem.run_bind, run_program, Result.andThen_ok, hn, method, typeInfo, hi, Sem.run_pure, hmt, hpath, follow, hfn, receiverAt, run_underlying hu, Place.get]
        cases d with
        | none =>
          have hk : ptr = true := hk
          subst hk
          have hd : rv = .pointer (some ad) := hd
          subst hd
          simp
        | some U =>
          have hk : (!ptr && Nat.beq U e) = true := hk
          simp only [Bool.and_eq_true, Bool.not_eq_true', beqt] at hk
          obtain ⟨h1, h2⟩ := hk
          subst h1 h2
          have hd : (loadVar U ad).run P w = .ok rv w := hd
          have hchk : ∀ nm : String, (Builtin.ssaWrapNilChk_ #[T] T #[.pointer (some ad), strVal "", strVal nm]).run P w = .ok (.pointer (some ad)) w := fun _ => rfl
          simp [hchk, asAddr, hd]
      · cases h
    · cases h
  · cases h
theorem beq_self' (n : Nat) : Nat.beq n n = true := beqt.2 rfl
/-- A temporary of which nothing is said any more may hold anything. -/
theorem forget_ok {s' : St} {a : Act} {w' : World} {Z : Nat → Prop} {γ : Nat → Value} {r : Nat} {rv v : Value} {d : Option Nat} (hs : SlotsOK w' Z γ s'.ob s'.sl ((a.put (some r) rv).put d v).tmps) (hd : ∀ k, d = some k → k ≠ r) : SlotsOK w' Z γ (s'.set r (.lf .u)).ob (s'.set r (.lf .u)).sl (a.put d v).tmps := by
  have hsz : ((a.put (some r) rv).put d v).tmps.size = (a.put d v).tmps.size := by cases d <;> simp [Act.put]
  refine ⟨by have := hs.len; simp only [St.set, List.length_set]; omega, fun i => ?_⟩
  by_cases hi : i = r
  · subst hi
    have : (s'.set i (.lf .u)).sl.getD i (.lf .u) = .lf .u := by
      simp only [St.set, List.getD_eq_getElem?_getD, List.getElem?_set]
      simp only [if_true]
      split <;> rfl
    rw [this]
    trivial
  · have h1 : (s'.set r (.lf .u)).sl.getD i (.lf .u) = s'.sl.getD i (.lf .u) := by
      simp only [St.set, List.getD_eq_getElem?_getD, List.getElem?_set_ne (Ne.symm hi)]
    have h2 : (a.put d v).tmps.getD i undef = ((a.put (some r) rv).put d v).tmps.getD i undef := by
      cases d with
      | none => simp [Act.put, Array.getD_eq_getD_getElem?, Array.getElem?_setIfInBounds, Ne.symm hi]
      | some k =>
        simp only [Act.put, Array.getD_eq_getD_getElem?, Array.getElem?_setIfInBounds, Array.size_setIfInBounds]
        by_cases hk : k = i
        · subst hk; simp
        · simp [hk, Ne.symm hi]
    rw [h1, h2]
    exact hs.ok i
theorem set_get_self {s : St} {a : Act} {w : World} {Z : Nat → Prop} {γ : Nat → Value} {r : Nat} {y : Slot} {v : Value} (hs : SlotsOK w Z γ s.ob s.sl a.tmps) (hy : SlotOK w Z γ s.ob y v) (hr : r < s.sl.length) : SlotsOK w Z γ s.ob (s.set r y).sl (a.put (some r) v).tmps := setd_ok (b := s.b) (d := some r) hs hy
theorem wp_of_run {o : Oper} {a : Act} {w w' : World} {v : Value} {K : Act → World → Prop} {Q : Exit → Act → World → Prop} (hr : (execOp a.eval o).run P w = .ok (.value v) w' ∨ ((execOp a.eval o).run P w = .ok .skip w' ∧ v = undef)) (h : K (a.put o.dst v) w') : o.wp P a w K Q := by
  unfold Oper.wp
  rcases hr with hr | ⟨hr, e⟩
  · rw [hr]; exact h
  · subst e; rw [hr]; exact h
theorem callOut_go {s s1 : St} {d : Option Nat} {f : FuncId} {xs : List Operand} {caps : List Slot} {out : Out E} (hinl : E.inl = []) (h : callOut E s d f xs caps = some (s1, out)) : ∃ key x k q, out = .call key x k ∨ out = .callN key x k q := by
  unfold callOut at h
  split at h
  · cases h
  · rw [hinl] at h
    simp only [look] at h
    split at h
    · cases h
    · split at h
      · cases h
      · split at h
        · split at h
          · simp only [Option.some.injEq, Prod.mk.injEq] at h
            have h2 := h.2
            split at h2
            · exact ⟨_, _, _, _, .inr h2.symm⟩
            · exact ⟨_, _, _, Tys.optQ _, .inl h2.symm⟩
          · cases h
        · cases h
/-- What an operation comes to, if it is no call. -/
theorem step_cases {s s1 : St} {o : Oper} {out : Out E} (h : step E s o = some (s1, out)) :
    (∃ g x ob, out = .go g x ob) ∨ (∃ c y z, o.op = .pick c y z) ∨ ∃ c y, o.op = .call c ∧ c.callee = .value y := by
  cases ho : o.op with
  | pick c y z => exact .inr (.inl ⟨_, _, _, rfl⟩)
  | call c =>
    cases hb : c.callee with
    | value y => exact .inr (.inr ⟨c, y, rfl, hb⟩)
    | invoke r m => simp only [step, ho, hb] at h; cases h
    | builtin b =>
      refine .inl ?_
      cases b <;> first
        | (simp only [step, ho, hb] at h; cases h; done)
        | (simp only [step, ho, hb, appd] at h; (repeat' (split at h)) <;> first | (cases h; done) | (cases h; exact ⟨_, _, _, rfl⟩))
  | slice T y lo hi mx =>
    refine .inl ?_
    cases mx <;> simp only [step, ho] at h <;> (repeat' (split at h)) <;> first | (cases h; done) | (cases h; exact ⟨_, _, _, rfl⟩)
  | typeAssert y T U b =>
    refine .inl ?_
    cases b <;> simp only [step, ho] at h <;> (repeat' (split at h)) <;> first | (cases h; done) | (cases h; exact ⟨_, _, _, rfl⟩)
  | makeFunc f l m =>
    refine .inl ?_
    cases f <;> simp only [step, ho] at h <;> (repeat' (split at h)) <;> first | (cases h; done) | (cases h; exact ⟨_, _, _, rfl⟩)
  | _ =>
    refine .inl ?_
    simp only [step, ho] at h
    first
      | (cases h; done)
      | (cases h; exact ⟨_, _, _, rfl⟩)
      | ((repeat' (split at h)) <;> first | (cases h; done) | (cases h; exact ⟨_, _, _, rfl⟩))
theorem stepK_ok (henv : envOK P E = true) (hinl : E.inl = []) (hst : Stable GB G) (hG : G w0) (hGB : ∀ b, GB b → b < w0.heap.size ∧ ¬ M b) (hm : m ≤ 1000) {R : Type} {ev : Ev E} (hev : EvOK P GB G E ev)
    {inl : FuncId → List Slot → St → (Slot → List (Nat × Ob) → Option R) → Option R} {s : St} {a : Act} {w : World} {o : Oper} {K : St → Option R} {r : R} (h : stepK E ev inl s o K = some r) (hg : Good w0 M Z0 γ0 m s a w) {Q : Exit → Act → World → Prop} :
    o.wp P a w (fun a' w' => ∃ s', K s' = some r ∧ Good w0 M Z0 γ0 m s' a' w') Q := by
  unfold stepK at h
  split at h
  · rename_i s1 out hs1
    split at h
    · rename_i hb1
      have hb1 := beqt.1 hb1
      have hb := hg.b
      rcases step_cases hs1 with ⟨g, x, ob', rfl⟩ | ⟨c, y, z, ho⟩ | ⟨c, y, ho, hc⟩
      · obtain ⟨h1, h2⟩ := guards_some h
        obtain ⟨⟨Z, γ, hi, hs, hγ⟩, _, hd⟩ := hg
        obtain ⟨v, w', hr, hgd⟩ := Good.does (γ0 := γ0) hm (by omega) hd hγ (step_go henv hs1 h1 hi hs)
        exact wp_of_run hr ⟨_, h2, hgd⟩
      · simp only [step, ho] at hs1
        split at hs1
        · rename_i cb x1 x2 h1 h2 h3
          cases hs1
          obtain ⟨⟨Z, γ, hi, hs, hγ⟩, _, hd⟩ := hg
          have hcv := opnd_bool h1 hs
          have hrun : ∀ b : Bool, a.eval c = .bool b → (execOp a.eval o).run P w = .ok (.value (if b = true then a.eval y else a.eval z)) w := by
            intro b hcv
            simp only [execOp, ho, Sem.run_bind, hcv, asBool, Sem.run_pure, Result.andThen_ok]
          have hrun := hrun cb hcv
          refine wp_of_run (.inl hrun) ?_
          simp only [Out.cps] at h
          cases cb with
          | true => exact ⟨_, h, ⟨⟨Z, γ, by rw [(setd_ob _ _ _).1]; exact hi, by rw [(setd_ob _ _ _).1]; exact setd_ok (b := s.b) hs (opnd_ok h2 hs), hγ⟩, by rw [(setd_ob _ _ _).2]; exact hb, by rw [put_defers]; exact hd⟩⟩
          | false => exact ⟨_, h, ⟨⟨Z, γ, by rw [(setd_ob _ _ _).1]; exact hi, by rw [(setd_ob _ _ _).1]; exact setd_ok (b := s.b) hs (opnd_ok h3 hs), hγ⟩, by rw [(setd_ob _ _ _).2]; exact hb, by rw [put_defers]; exact hd⟩⟩
        · cases hs1
      · have hmk : ∀ (f : FuncId) (ps : List Value) w', a.eval y = .func (.func f) #[] ps.toArray → (execOp a.eval o).run P w' = (callFunc f (c.args.toList.map a.eval ++ ps).toArray).run P w' := by
          intro f ps w' hv
          have : (c.args.map a.eval ++ ps.toArray) = (c.args.toList.map a.eval ++ ps).toArray := by
            apply Array.ext'
            simp
          simp only [execOp, ho, resolve, hc, Deferred.ofValue, hv, pure_bind, invoke, Array.empty_append, this]
        cases y with
        | func f =>
          simp only [step, ho, hc] at hs1
          exact do_call hst hG hGB hm hev (cs := []) hinl hs1 h hg rfl (fun Z γ hs => ⟨by simp, fun w' => by simpa using hmk f [] w' rfl⟩)
        | tmp t =>
          simp only [step, ho, hc] at hs1
          split at hs1
          · rename_i f cs hf
            split at hs1
            · rename_i hfb
              exact do_call hst hG hGB hm hev (cs := cs) hinl hs1 h hg rfl (fun Z γ hs => by
                have hv := opnd_lf hf hs
                exact ⟨hv.2.2, fun w' => hmk f _ w' (hv.1.trans (Wv_fn hfb _))⟩)
            · cases hs1
          · cases hs1
        | const v =>
          simp only [step, ho, hc] at hs1
          split at hs1
          · rename_i f cs hf
            split at hs1
            · rename_i hfb
              exact do_call hst hG hGB hm hev (cs := cs) hinl hs1 h hg rfl (fun Z γ hs => by
                have hv := opnd_lf hf hs
                exact ⟨hv.2.2, fun w' => hmk f _ w' (hv.1.trans (Wv_fn hfb _))⟩)
            · cases hs1
          · cases hs1
        | global g => simp only [step, ho, hc, St.opnd] at hs1; cases hs1
    · cases h
  · split at h
    · rename_i rt f s0 xs hiv
      split at h
      · rename_i s1 out hs1
        split at h
        · obtain ⟨⟨Z, γ, hi, hs, hγ⟩, hb, hd⟩ := id hg
          unfold invk at hiv
          split at hiv
          · rename_i c ho
            split at hiv
            · rename_i r0 name hc
              split at hiv
              · rename_i W b hsl
                split at hiv
                · rename_i hcnd
                  simp only [Bool.and_eq_true] at hcnd
                  obtain ⟨hW, hdst⟩ := hcnd
                  have hW := Nat.le_of_ble_eq_true hW
                  obtain ⟨T, hT⟩ : ∃ T, W = ifB + T := ⟨W - ifB, (Nat.add_sub_cancel' hW).symm⟩
                  subst hT
                  rw [Nat.add_sub_cancel_left] at hiv
                  have hlen : r0 < s.sl.length := by
                    refine Nat.lt_of_not_le fun hle => ?_
                    have : s.get r0 = .lf .u := by simp [St.get, List.getD_eq_getElem?_getD, List.getElem?_eq_none hle]
                    rw [this] at hsl; cases hsl
                  have hv := hs.ok r0
                  rw [show s.sl.getD r0 (.lf .u) = .lf (.fn (ifB + T) [b]) from hsl] at hv
                  obtain ⟨hv1, _, hv3⟩ := hv
                  obtain ⟨gg, hgg⟩ := hv3 b List.mem_cons_self
                  have hv1 : a.tmps.getD r0 undef = .iface T (.pointer (some ⟨gg, 0, none⟩)) := by rw [hv1, List.map_cons, List.map_nil, hgg, Wv_if]
                  have hdne : ∀ d, o.dst = some d → d ≠ r0 := by
                    intro d hd e
                    rw [hd, e] at hdst
                    simp [dstNot, beq_self'] at hdst
                  -- the call, with the receiver in the interface value's place
                  have key : ∀ (y : Slot) (rv : Value), SlotOK w Z γ s.ob y rv → (∀ args, (callMethod (.iface T (.pointer (some ⟨gg, 0, none⟩))) name args).run P w = (callFunc f (#[rv] ++ args)).run P w) →
                      c.args.all (notTmp r0) = true → callOut E (s.set r0 y) o.dst f (.tmp r0 :: c.args.toList) [] = some (s1, out) → out.cps ev inl s1 o.dst (fun s' => K (s'.set r0 (.lf .u))) = some r →
                      o.wp P a w (fun a' w' => ∃ s', K s' = some r ∧ Good w0 M Z0 γ0 m s' a' w') Q := by
                    intro y rv hy hmeth hargs hco hcp
                    have hgd : Good w0 M Z0 γ0 m (s.set r0 y) (a.put (some r0) rv) w := ⟨⟨Z, γ, hi, setd_ok (b := s.b) (d := some r0) hs hy, hγ⟩, hb, by rw [put_defers]; exact hd⟩
                    have hF : ∀ s' v w', (fun s' => K (s'.set r0 (.lf .u))) s' = some r → Good w0 M Z0 γ0 m s' ((a.put (some r0) rv).put o.dst v) w' → (fun a' w' => ∃ s', K s' = some r ∧ Good w0 M Z0 γ0 m s' a' w') (a.put o.dst v) w' := by
                      intro s' v w' h1 h2
                      obtain ⟨⟨Z2, γ2, hi2, hs2, hγ2⟩, hb2, hd2⟩ := h2
                      exact ⟨_, h1, ⟨Z2, γ2, hi2, forget_ok hs2 hdne, hγ2⟩, hb2, by rw [put_defers]; exact hd⟩
                    refine do_call' hst hG hGB hm hev (cs := []) (a := a.put (some r0) rv) hinl hco hcp hgd rfl hF fun Z' γ' hs' => ⟨by simp, ?_⟩
                    have hrt : (a.put (some r0) rv).eval (.tmp r0) = rv := by
                      have hl2 : r0 < a.tmps.size := Nat.lt_of_lt_of_le hlen hs.len
                      simp [Act.put, Act.eval, Array.getD_eq_getD_getElem?, hl2]
                    have hrest : c.args.toList.map (a.put (some r0) rv).eval = c.args.toList.map a.eval := by
                      refine List.map_congr_left fun x hx => ?_
                      have h1 := Array.all_eq_true.1 hargs
                      cases x with
                      | tmp t =>
                        obtain ⟨q, hq, e⟩ := List.getElem_of_mem hx
                        have h2 := h1 q (by simpa using hq)
                        rw [show c.args[q]'(by simpa using hq) = .tmp t by simpa using e] at h2
                        have hne : t ≠ r0 := fun e => by subst e; simp [notTmp, beq_self'] at h2
                        simp [Act.put, Act.eval, Array.getD_eq_getD_getElem?, Array.getElem?_setIfInBounds, Ne.symm hne]
                      | _ => rfl
                    rw [List.map_cons, hrt, hrest, List.map_nil, List.append_nil]
                    have hev2 : a.eval (.tmp r0) = .iface T (.pointer (some ⟨gg, 0, none⟩)) := hv1
                    have hex : ((#[a.eval (.tmp r0)] ++ c.args.map a.eval) : Array Value).extract 1 (#[a.eval (.tmp r0)] ++ c.args.map a.eval).size = c.args.map a.eval := by
                      apply Array.ext'
                      simp [List.take_of_length_le]
                    have h0 : (#[a.eval (.tmp r0)] ++ c.args.map a.eval : Array Value)[0]? = some (a.eval (.tmp r0)) := by
                      rw [Array.getElem?_append_left (by simp)]
                      rfl
                    simp only [execOp, ho, resolve, hc, pure_bind, invoke, h0, hex]
                    rw [hev2, hmeth]
                    congr 2
                    apply Array.ext'
                    simp
                  split at hiv
                  · rename_i x1 x2 f' hfd
                    have hok := envOK_meth henv (List.mem_of_find?_eq_some hfd)
                    have hnm := List.find?_some hfd
                    simp only [Bool.and_eq_true, beqt, beq_iff_eq] at hnm
                    obtain ⟨e1, e2⟩ := hnm
                    subst e1 e2
                    split at hiv
                    · rename_i hargs
                      cases hiv
                      exact key (.lf (.p b 0)) (.pointer (some ⟨gg, 0, none⟩)) ⟨gg, hgg, rfl⟩ (fun args => run_method hok _ w rfl args) hargs hs1 h
                    · cases hiv
                  · rename_i x1 x2 f' U hfd
                    have hok := envOK_meth henv (List.mem_of_find?_eq_some hfd)
                    have hnm := List.find?_some hfd
                    simp only [Bool.and_eq_true, beqt, beq_iff_eq] at hnm
                    obtain ⟨e1, e2⟩ := hnm
                    subst e1 e2
                    split at hiv
                    · rename_i U' l ag n hl hcell
                      split at hiv
                      · rename_i y hy
                        split at hiv
                        · rename_i hargs
                          cases hiv
                          have hct := cell_ok henv hcell
                          obtain ⟨g2, cur, h6, h7, h8⟩ := hi.obs b _ hl
                          rw [hgg] at h6
                          cases h6
                          obtain ⟨hn, hsl2⟩ := pick_ok (ob := s.ob) hy h8
                          have hcs := cells_at (off := 0) h7
                          have hload := run_loadVar (P := P) (w := w) hct ⟨gg, 0, none⟩ (cur.toList.take n) (by rw [List.length_take]; omega) fun j u hu => by
                            refine hcs j u ?_
                            rw [List.getElem?_take] at hu
                            split at hu
                            · simpa using hu
                            · cases hu
                          exact key y _ hsl2 (fun args => run_method hok _ w hload args) hargs hs1 h
                        · cases hiv
                      · cases hiv
                    · cases hiv
                  · cases hiv
                · cases hiv
              · cases hiv
            · cases hiv
          · cases hiv
        · cases h
      · cases h
    · split at h
      · rename_i b y l hsel
        have h := selK_some h
        obtain ⟨⟨Z, γ, hi, hs, hγ⟩, hb, hd⟩ := hg
        unfold selC at hsel
        split at hsel
        · rename_i c ho
          split at hsel
          · rename_i f hc
            split at hsel
            · rename_i l' hl
              split at hsel
              · rename_i p x hargs
                split at hsel
                · rename_i b' y' hp hx
                  cases hsel
                  obtain ⟨⟨fn, cc, hf1, hf2, hf3⟩, hcall⟩ := hev.1 f l hl
                  obtain ⟨g, hg1, hg2⟩ := opnd_lf hp hs
                  have hx2 : a.eval x = .string y := by
                    have := opnd_lf hx hs
                    have : [a.eval x] = [Value.string y] := this
                    simpa using this
                  have hae : c.args.map a.eval = #[.pointer (some ⟨g, 0, none⟩), .string y] := by
                    apply Array.ext'
                    rw [Array.toList_map, hargs]
                    simp [hg2, hx2]
                  have hrun : (execOp a.eval o).run P w = (callFunc f #[.pointer (some ⟨g, 0, none⟩), .string y]).run P w := by
                    simp only [execOp, ho, resolve, hc, Deferred.ofValue, Act.eval, pure_bind, invoke, Array.empty_append, Array.append_empty]
                    rw [show (c.args.map a.eval) = #[.pointer (some ⟨g, 0, none⟩), .string y] from hae]
                  unfold Oper.wp
                  rw [hrun]
                  have hen : (callFunc f #[.pointer (some ⟨g, 0, none⟩), .string y]).run P w = .ok (.enter f #[.pointer (some ⟨g, 0, none⟩), .string y]) w := by
                    have h1 : fn.name ≠ "runtime.NumGoroutine" := by simpa using hf3
                    simp [callFunc, hf1, h1, hf2]
                  rw [hen, Oper.upon_enter]
                  refine Calls.mono (hcall g y w) fun e w' he => ?_
                  obtain ⟨rfl, rfl⟩ := he
                  refine ⟨_, h, ⟨⟨Z, γ, by rw [(setd_ob _ _ _).1]; exact hi, ?_, hγ⟩, by rw [(setd_ob _ _ _).2]; exact hb, by rw [put_defers]; exact hd⟩⟩
                  rw [(setd_ob _ _ _).1]
                  refine setd_ok (b := s.b) hs ?_
                  cases selF l y with
                  | none => exact rfl
                  | some off => exact ⟨g, hg1, rfl⟩
                · cases hsel
              · cases hsel
            · cases hsel
          · cases hsel
        · cases hsel
      · cases h
theorem yielded_ok {ops : Array Oper} {tm : Array Value} {j g : Nat} (hg : (ops[j]?).bind (·.dst) = some g) : yielded ops tm j = (match tm.getD g undef with | .bool b => some b | _ => none) := by
  unfold yielded
  rw [hg]
  simp only [Option.bind_some, Array.getD_eq_getD_getElem?]
  cases tm[g]? with
  | none => rfl
  | some v => cases v <;> rfl
theorem opsK_ok (henv : envOK P E = true) (hinl : E.inl = []) (hst : Stable GB G) (hG : G w0) (hGB : ∀ b, GB b → b < w0.heap.size ∧ ¬ M b) (hm : m ≤ 1000) {R : Type} {ev : Ev E} (hev : EvOK P GB G E ev)
    {inl : FuncId → List Slot → St → (Slot → List (Nat × Ob) → Option R) → Option R} {ops : Array Oper} {K : St → Option R} {r : R} :
    ∀ (l : List Oper) (i : Nat) (s : St) (a : Act) (w : World), l = ops.toList.drop i → i + l.length = ops.size → opsK E ev inl ops l s K = some r → Good w0 M Z0 γ0 m s a w →
      wpOps P ops (fun e a w => e = .normal ∧ ∃ s', K s' = some r ∧ Good w0 M Z0 γ0 m s' a w) (List.range' i l.length) a w
  | [], i, s, a, w, _, _, h, hg => ⟨rfl, s, h, hg⟩
  | o :: l, i, s, a, w, hl, hlen, h, hg => by
    have hoi : ops[i]? = some o := by
      have := congrArg (·[0]?) hl
      simp only [List.getElem?_cons_zero, List.getElem?_drop, Nat.add_zero, Array.getElem?_toList] at this
      exact this.symm
    have hl' : l = ops.toList.drop (i + 1) := by
      have := congrArg List.tail hl
      simpa using this
    have hlen' : i + 1 + l.length = ops.size := by simp only [List.length_cons] at hlen; omega
    have ih : ∀ (s : St) (a : Act) (w : World), opsK E ev inl ops l s K = some r → Good w0 M Z0 γ0 m s a w → wpOps P ops (fun e a w => e = .normal ∧ ∃ s', K s' = some r ∧ Good w0 M Z0 γ0 m s' a w) (List.range' (i + 1) l.length) a w :=
      fun s a w => opsK_ok henv hinl hst hG hGB hm hev l (i + 1) s a w hl' hlen'
    simp only [List.length_cons, List.range'_succ, wpOps, hoi]
    have doit : ∀ s', stepK E ev inl s' o (fun s' => opsK E ev inl ops l s' K) = some r → Good w0 M Z0 γ0 m s' a w → o.wp P a w (wpOps P ops (fun e a w => e = .normal ∧ ∃ s', K s' = some r ∧ Good w0 M Z0 γ0 m s' a w) (List.range' (i + 1) l.length)) (fun e a w => e = .normal ∧ ∃ s', K s' = some r ∧ Good w0 M Z0 γ0 m s' a w) := by
      intro s' h1 h2
      have h3 := stepK_ok henv hinl hst hG hGB hm hev h1 h2 (Q := fun e a w => e = .normal ∧ ∃ s', K s' = some r ∧ Good w0 M Z0 γ0 m s' a w)
      refine Oper.wp_mono ?_ h3
      rintro a' w' ⟨s2, h4, h5⟩
      exact ih s2 a' w' h4 h5
    have skip : ∀ s' v, opsK E ev inl ops l (s'.setd o.dst (.lf .un)) K = some r → Good w0 M Z0 γ0 m s' a w → v = undef → wpOps P ops (fun e a w => e = .normal ∧ ∃ s', K s' = some r ∧ Good w0 M Z0 γ0 m s' a w) (List.range' (i + 1) l.length) (a.put o.dst v) w := by
      rintro s' v h1 ⟨⟨Z, γ, hi, hs, hγ⟩, hb, hd⟩ rfl
      refine ih _ _ _ h1 ⟨⟨Z, γ, by rw [(setd_ob _ _ _).1]; exact hi, by rw [(setd_ob _ _ _).1]; exact setd_ok (b := s'.b) hs rfl, hγ⟩, by rw [(setd_ob _ _ _).2]; exact hb, by rw [put_defers]; exact hd⟩
    simp only [opsK] at h
    cases hgd : o.guard with
    | none =>
      rw [hgd] at h
      have hw : Region.wanted o (yielded ops a.tmps) = true := by simp [Region.wanted, hgd]
      rw [if_pos hw]
      exact .inl (doit s h hg)
    | some jw =>
      obtain ⟨j, want⟩ := jw
      rw [hgd] at h
      dsimp only at h
      split at h
      · rename_i gt hgt
        have hy := yielded_ok (tm := a.tmps) hgt
        obtain ⟨⟨Z, γ, hi, hs, hγ⟩, hb, hd⟩ := id hg
        have hslot := hs.ok gt
        split at h
        · rename_i hsl
          rw [show s.sl.getD gt (.lf .u) = .lf .un from hsl] at hslot
          have hv : a.tmps.getD gt undef = undef := hslot
          have hw : Region.wanted o (yielded ops a.tmps) = false := by
            simp only [Region.wanted, hgd, hy, hv]
            rfl
          rw [hw]
          exact skip s _ h hg rfl
        · rename_i c hsl
          rw [show s.sl.getD gt (.lf .u) = .lf (.v .bool c) from hsl] at hslot
          have hv : ∀ c : Bool, SlotOK w Z γ s.ob (.lf (.v .bool c)) (a.tmps.getD gt undef) → a.tmps.getD gt undef = .bool c := by
            intro c h
            simpa only [SlotOK, LfOK, Ty.Rep, List.cons.injEq, and_true] using h
          have hv := hv c hslot
          have hw : Region.wanted o (yielded ops a.tmps) = (some (show Bool from c) == some want) := by
            simp only [Region.wanted, hgd, hy, hv]
          have hgs : Good w0 M Z0 γ0 m (s.set gt (.lf (.v .bool c))) a w := ⟨⟨Z, γ, hi, setd_same hs hslot, hγ⟩, hb, hd⟩
          cases c with
          | true =>
            cases want with
            | true => rw [if_pos (by rw [hw]; rfl)]; exact .inl (doit _ h hgs)
            | false => rw [if_neg (by rw [hw]; decide)]; exact skip _ _ h hgs rfl
          | false =>
            cases want with
            | true => rw [if_neg (by rw [hw]; decide)]; exact skip _ _ h hgs rfl
            | false => rw [if_pos (by rw [hw]; rfl)]; exact .inl (doit _ h hgs)
        · cases h
      · cases h
end
end Go.GV
