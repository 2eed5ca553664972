/-
Part of the words that the laws of this seat are proved with: no statement of its own, no conditions.
-/
import Derived.Test.YtidgapgbnlcjgaaGreatDoorZ0
set_option linter.unusedVariables false
set_option linter.unusedSimpArgs false
namespace Go.GV
def vz : Ty → Value → Bool
 | .int k, .int k' n => kbeq k k' && (match n with | .ofNat 0 => true | _ => false)
 | .bool, .bool b => !b
 | .str, .string s => Nat.beq s.data.toList.length 0
 | .err, .nilIface => true
 | .row _ _, .slice none l c => Nat.beq l 0 && Nat.beq c 0
 | _, _ => false
def zc1 (t : Ty) : List Value → Option (List Value)
 | [] => none
 | v :: r => if vz t v = true then some r else none
mutual
def zchk : Ty → List Value → Option (List Value)
 | .st fs, l => hT1 fs l
 | .int k, l => zc1 (.int k) l
 | .bool, l => zc1 .bool l
 | .str, l => zc1 .str l
 | .err, l => zc1 .err l
 | .row E t, l => zc1 (.row E t) l
 | .any _ _, _ => none
def hT1 : Tys → List Value → Option (List Value)
 | .nil, l => some l
 | .cons t ts, l => match zchk t l with | some r => hT1 ts r | none => none
end
def kP (i : TypeInfo) (t : Ty) : Bool :=
 Nat.beq i.size t.sz && Nat.ble i.bytes 8192 && (match i.zero with
  | some z => (match zchk t z.cells.toList with | some r => isNil r | none => false) && (match z, t.isSt with | .agg _, b => b | _, b => !b)
  | none => false)
mutual
def tyOK (P : Program) : Ty → TypeId → Bool
 | .int k, T => (match P.info? T with | some i => kP i (.int k) | none => false) && (match P.underlying T with | some (.int k') => kbeq k k' | _ => false)
 | .bool, T => (match P.info? T with | some i => kP i .bool | none => false) && (match P.underlying T with | some .bool => true | _ => false)
 | .str, T => (match P.info? T with | some i => kP i .str | none => false) && (match P.underlying T with | some .string => true | _ => false)
 | .err, T => (match P.info? T with | some i => kP i .err | none => false) && (match P.underlying T with | some (.interface _) => true | _ => false)
 | .st fs, T => (match P.info? T with | some i => kP i (.st fs) | none => false) && (match P.underlying T with | some (.struct l) => pH P fs l.toList 0 | _ => false)
 | .row E t, T => (match P.info? T with | some i => kP i (.row E t) | none => false) && (match P.underlying T with | some (.slice E') => Nat.beq E E' && Nat.blt 0 t.sz && tyOK P t E | _ => false)
 | .any _ _, _ => false
def pH (P : Program) : Tys → List Field → Nat → Bool
 | .nil, [], _ => true
 | .cons t ts, f :: l, n => Nat.beq f.offset n && tyOK P t f.type && pH P ts l (n + t.sz)
 | _, _, _ => false
end
def aI1 (P : Program) (T : TypeId) (b : Bool) : Bool :=
 (match P.info? T with | some i => Nat.beq i.size 1 && (match i.zero with | some z => Nat.beq z.cells.size 1 | none => false) | none => false) &&
 (match P.underlying T with | some (.struct _) => false | some (.array _ _) => false | some (.pointer _) => true | some _ => !b | none => false)
mutual
def eqT (P : Program) : Ty → TypeId → Bool
 | .int _, _ => true
 | .bool, _ => true
 | .str, _ => true
 | .err, _ => false
 | .st fs, T => !P.stoodInHeld T && (match P.underlying T with | some (.struct l) => eqFs P fs l.toList | _ => false)
 | .row _ _, _ => false
 | .any _ _, _ => false
def eqFs (P : Program) : Tys → List Field → Bool
 | .nil, [] => true
 | .cons t ts, f :: l => f.name != "_" && eqT P t f.type && eqFs P ts l
 | _, _ => false
end
def eqOK (P : Program) (E : Env) (T : TypeId) : Bool := match E.t T with
 | some t => eqT P t T && Nat.ble t.ht 9000 && !(P.eqGuardType P.depth T)
 | none => false
def lJ1 (P : Program) (x : TypeId × String × FuncId × Option TypeId) : Bool := Nat.blt 0 P.types.size && (match P.info? x.1, P.underlying x.1 with
 | some i, some (.pointer e) => (match i.methods.find? (·.name == x.2.1) with
  | some m => m.path.isEmpty && (match m.func with
   | some (f, ptr) => Nat.beq f x.2.2.1 && (match x.2.2.2 with | none => ptr | some U => !ptr && Nat.beq U e)
   | none => false)
  | none => false)
 | _, _ => false)
def lE (P : Program) (E : Env) : Bool := (E.ty.all fun x => tyOK P x.2 x.1) && (E.one.all fun x => aI1 P x.1 x.2) && (E.eqs.all fun T => eqOK P E T) && E.meths.all (lJ1 P)
section
variable {P : Program} {w : World} {Z : Nat → Prop} {γ : Nat → Value}
theorem lE1 {t : Ty} (hv : ∀ v, vz t v = true → t.Rep w Z t.z [v] ∧ All2 (LfOK w Z γ) t.zl [v]) {l r : List Value} (h : zc1 t l = some r) :
  ∃ a, l = a ++ r ∧ t.Rep w Z t.z a ∧ All2 (LfOK w Z γ) t.zl a := by
 cases l with
 | nil => cases h
 | cons v l =>
  simp only [zc1] at h
  split at h
  ·cases h
   rename_i hz
   exact ⟨[v], rfl, hv v hz⟩
  ·cases h
theorem wP1 (γ : Nat → Value) (t : Ty) (ht : t.isSt = false) (v : Value) (h : vz t v = true) : t.Rep w Z t.z [v] ∧ All2 (LfOK w Z γ) t.zl [v] := by
 cases t with
 | int k =>
  cases v <;> simp only [vz] at h <;> try cases h
  rename_i k' n
  simp only [oG2] at h
  obtain ⟨h1, h2⟩ := h
  have := wZ h1
  subst this
  split at h2
  ·exact ⟨rfl, rfl, trivial⟩
  ·cases h2
 | bool =>
  cases v <;> simp only [vz] at h <;> try cases h
  rename_i b
  cases b
  ·exact ⟨rfl, rfl, trivial⟩
  ·cases h
 | str =>
  cases v <;> simp only [vz] at h <;> try cases h
  rename_i s
  have : s = ByteArray.empty := by
   have h0 := beqt.1 h
   have h1 : s.data = #[] := by
    have := iH2 h0
    rw [← iI2 (xs := s.data), this]
   cases s
   cases h1
   rfl
  subst this
  exact ⟨rfl, rfl, trivial⟩
 | err =>
  cases v <;> simp only [vz] at h <;> try cases h
  exact ⟨⟨_, rfl, .inl ⟨rfl, rfl⟩⟩, rfl, trivial⟩
 | any T t => cases v <;> cases h
 | st fs => cases ht
 | row E t =>
  cases v <;> simp only [vz] at h <;> try cases h
  rename_i A l c
  cases A with
  | some a => simp at h
  | none =>
   simp only [oG2, beqt] at h
   obtain ⟨h1, h2⟩ := h
   subst h1 h2
   exact ⟨aY1, rfl, trivial⟩
mutual
theorem hO1 (γ : Nat → Value) : ∀ {t : Ty} {l r : List Value}, zchk t l = some r → ∃ a, l = a ++ r ∧ t.Rep w Z t.z a ∧ All2 (LfOK w Z γ) t.zl a
 | .st fs, _, _, h => wJ1 γ (ts := fs) h
 | .int k, _, _, h => lE1 (fun v => wP1 γ (.int k) rfl v) h
 | .bool, _, _, h => lE1 (fun v => wP1 γ .bool rfl v) h
 | .str, _, _, h => lE1 (fun v => wP1 γ .str rfl v) h
 | .err, _, _, h => lE1 (fun v => wP1 γ .err rfl v) h
 | .row E t, _, _, h => lE1 (fun v => wP1 γ (.row E t) rfl v) h
 | .any _ _, _, _, h => by cases h
theorem wJ1 (γ : Nat → Value) : ∀ {ts : Tys} {l r : List Value}, hT1 ts l = some r → ∃ a, l = a ++ r ∧ ts.Rep w Z ts.z a ∧ All2 (LfOK w Z γ) ts.zl a
 | .nil, l, r, h => by simp only [hT1] at h; cases h; exact ⟨[], rfl, rfl, trivial⟩
 | .cons t ts, l, r, h => by
  simp only [hT1] at h
  split at h
  ·rename_i r1 h1
   obtain ⟨a, e, h2, h3⟩ := hO1 γ h1
   obtain ⟨b, e2, h4, h5⟩ := wJ1 γ h
   subst e e2
   exact ⟨a ++ b, by rw [hH2], ⟨a, b, rfl, h2, h4⟩, All2.append h3 h5⟩
  ·cases h
end
theorem bE (γ : Nat → Value) {i : TypeInfo} {t : Ty} (h : kP i t = true) :
  i.size = t.sz ∧ i.bytes ≤ 8192 ∧ ∃ z, i.zero = some z ∧ t.Rep w Z t.z z.cells.toList ∧ All2 (LfOK w Z γ) t.zl z.cells.toList ∧ z.cells.size = t.sz := by
 unfold kP at h
 simp only [oG2, beqt] at h
 obtain ⟨⟨h1, h2⟩, h3⟩ := h
 refine ⟨h1, wH2 h2, ?_⟩
 split at h3
 ·rename_i z hz
  simp only [oG2] at h3
  obtain ⟨h3, _⟩ := h3
  split at h3
  ·rename_i r hr
   cases r with
   | cons _ _ => cases h3
   | nil =>
    obtain ⟨a, e, h4, h5⟩ := hO1 (w := w) (Z := Z) γ hr
    rw [kH2] at e
    refine ⟨z, hz, e ▸ h4, e ▸ h5, ?_⟩
    have := Ty.Rep.length h4
    rw [← e, dH2] at this
    exact this
  ·cases h3
 ·cases h3
theorem lF {t : Ty} {T : TypeId} (h : tyOK P t T = true) : ∃ i, P.info? T = some i ∧ kP i t = true := by
 cases t <;> simp only [tyOK, oG2] at h <;> obtain ⟨h, _⟩ := h <;> split at h <;> first | (rename_i i hi; exact ⟨i, hi, h⟩) | cases h
theorem nH {k : IntKind} {T : TypeId} (h : tyOK P (.int k) T = true) : P.underlying T = some (.int k) := by
 simp only [tyOK, oG2] at h
 obtain ⟨_, h⟩ := h
 split at h
 ·rename_i k' hk; rw [hk, wZ h]
 ·cases h
theorem pI {T : TypeId} (h : tyOK P .bool T = true) : P.underlying T = some .bool := by
 simp only [tyOK, oG2] at h
 obtain ⟨_, h⟩ := h
 split at h
 ·assumption
 ·cases h
theorem xI {T : TypeId} (h : tyOK P .str T = true) : P.underlying T = some .string := by
 simp only [tyOK, oG2] at h
 obtain ⟨_, h⟩ := h
 split at h
 ·assumption
 ·cases h
theorem kT {T : TypeId} (h : tyOK P .err T = true) : ∃ ms, P.underlying T = some (.interface ms) := by
 simp only [tyOK, oG2] at h
 obtain ⟨_, h⟩ := h
 split at h
 ·rename_i ms hm; exact ⟨ms, hm⟩
 ·cases h
theorem yL {fs : Tys} {T : TypeId} (h : tyOK P (.st fs) T = true) : ∃ l, P.underlying T = some (.struct l) ∧ pH P fs l.toList 0 = true := by
 simp only [tyOK, oG2] at h
 obtain ⟨_, h⟩ := h
 split at h
 ·rename_i l hm; exact ⟨l, hm, h⟩
 ·cases h
theorem iE {E : TypeId} {t : Ty} {T : TypeId} (h : tyOK P (.row E t) T = true) : P.underlying T = some (.slice E) ∧ 0 < t.sz ∧ tyOK P t E = true := by
 simp only [tyOK, oG2] at h
 obtain ⟨_, h⟩ := h
 split at h
 ·rename_i E' hm
  simp only [oG2, beqt] at h
  obtain ⟨⟨h1, h2⟩, h3⟩ := h
  exact ⟨by rw [hm, h1], wH2 h2, h3⟩
 ·cases h
theorem aK1 {α : Type} {l : List (Nat × α)} {f : Nat × α → Bool} (h : l.all f = true) {n : Nat} {a : α} (hl : look l n = some a) : f (n, a) = true := pH2.1 h _ (uI hl)
theorem vD {E : Env} (h : lE P E = true) {T : TypeId} {t : Ty} (ht : E.t T = some t) : tyOK P t T = true := by
 simp only [lE, oG2] at h
 exact aK1 h.1.1.1 ht
theorem wM {E : Env} (h : lE P E = true) {T : TypeId} {b : Bool} (ht : look E.one T = some b) : aI1 P T b = true := by
 simp only [lE, oG2] at h
 exact aK1 h.1.1.2 ht
theorem sV1 {E : Env} (h : lE P E = true) {T : TypeId} (hT : E.eqs.any (Nat.beq T) = true) : eqOK P E T = true := by
 simp only [lE, oG2] at h
 obtain ⟨y, hy, he⟩ := tJ2.1 hT
 have := beqt.1 he
 subst this
 exact pH2.1 h.1.2 _ hy
theorem iZ {E : Env} (h : lE P E = true) {x : TypeId × String × FuncId × Option TypeId} (hx : x ∈ E.meths) : lJ1 P x = true := by
 simp only [lE, oG2] at h
 exact pH2.1 h.2 _ hx
theorem zP {E : Env} {T e : TypeId} {t : Ty} (h : E.rowT T = some (e, t)) : E.t T = some (.row e t) := by
 unfold Env.rowT at h
 split at h
 ·rename_i e' t' ht; cases h; exact ht
 ·cases h
theorem oJ {T : TypeId} {d : TypeDesc} (h : P.underlying T = some d) : (isAgg T).run P w = .ok (match d with | .struct _ | .array _ _ => true | _ => false) w := by
 unfold isAgg
 simp only [Sem.run_bind, run_underlying h, Result.andThen_ok]
 cases d <;> rfl
structure CellTy (P : Program) (T : TypeId) (ag : Bool) (n : Nat) : Prop where
 info : ∃ i, P.info? T = some i ∧ i.size = n
 agg : ∀ w, (isAgg T).run P w = .ok ag w
 one : ag = false → n = 1
theorem bN {t : Ty} {T : TypeId} (h : tyOK P t T = true) : CellTy P T t.isSt t.sz := by
 obtain ⟨i, hi, hz⟩ := lF h
 refine ⟨⟨i, hi, (bE (w := default) (Z := fun _ => False) (fun _ => undef) hz).1⟩, fun w => ?_, fun hs => by cases t <;> first | rfl | cases hs⟩
 cases t with
 | int k => rw [oJ (nH h)]; rfl
 | bool => rw [oJ (pI h)]; rfl
 | str => rw [oJ (xI h)]; rfl
 | err => obtain ⟨ms, h⟩ := kT h; rw [oJ h]; rfl
 | st fs => obtain ⟨l, h, _⟩ := yL h; rw [oJ h]; rfl
 | row E t => rw [oJ (iE h).1]; rfl
 | any T t => cases h
theorem mZ {T : TypeId} {b : Bool} (h : aI1 P T b = true) : CellTy P T false 1 ∧ ∃ i z, P.info? T = some i ∧ i.zero = some z ∧ z.cells.size = 1 := by
 simp only [aI1, oG2] at h
 obtain ⟨h1, h2⟩ := h
 split at h1
 ·rename_i i hi
  simp only [oG2, beqt] at h1
  obtain ⟨h1, h3⟩ := h1
  refine ⟨⟨⟨i, hi, h1⟩, fun w => ?_, fun _ => rfl⟩, ?_⟩
  ·cases hd : P.underlying T with
   | none => simp [hd] at h2
   | some d => rw [oJ hd]; cases d <;> first | rfl | (simp [hd] at h2)
  ·split at h3
   ·rename_i z hz
    exact ⟨i, z, hi, hz, beqt.1 h3⟩
   ·cases h3
 ·cases h1
theorem uC1 {T : TypeId} (h : aI1 P T true = true) : P.underlying T = some (.pointer (P.pointee T)) := by
 simp only [aI1, oG2] at h
 obtain ⟨_, h2⟩ := h
 unfold Program.pointee
 cases hd : P.underlying T with
 | none => simp [hd] at h2
 | some d => cases d <;> first | rfl | (simp [hd] at h2)
theorem hA1 {E : Env} (h : lE P E = true) {T : TypeId} {ag : Bool} {n : Nat} (hc : E.cell T = some (ag, n)) : CellTy P T ag n := by
 unfold Env.cell at hc
 split at hc
 ·rename_i t ht
  cases hc
  exact bN (vD h ht)
 ·split at hc
  ·rename_i b hb
   cases hc
   exact (mZ (wM h hb)).1
  ·cases hc
def rG (ag : Bool) (cs : List Value) : Value := if ag = true then .agg cs.toArray else cs.getD 0 undef
theorem fO {T : TypeId} {ag : Bool} {n : Nat} (h : CellTy P T ag n) (a : Addr) (cs : List Value) (hl : cs.length = n) (hc : ∀ j u, cs[j]? = some u → w.cell? (a.add j) = some u) :
  (loadVar T a).run P w = .ok (rG ag cs) w := by
 obtain ⟨i, hi, hn⟩ := h.info
 have hlc := run_loadCells_list (P := P) w a cs hc
 unfold loadVar rG
 simp only [Sem.run_bind, h.agg, Result.andThen_ok]
 cases ag with
 | true => simp [sizeOf, typeInfo, hi, hn, ← hl, hlc]
 | false =>
  have h1 := h.one rfl
  have h0 : cs[0]? = some (cs.getD 0 undef) := by
   cases cs with
   | nil => simp at hl; omega
   | cons c cs => rfl
  have := hc 0 _ h0
  simp only [Addr.add, if_true] at this
  simp [this]
theorem mF1 {T : TypeId} {ag : Bool} {n : Nat} (h : CellTy P T ag n) (g o : Nat) (ty : TypeId) (cur : Array Value) (v : Value) (hg : w.heap[g]? = some (.cells cur ty (0, 0)))
  (hv : v.cells.size = n) (hfit : o + n ≤ cur.size) (h1 : ∀ u ∈ v.cells.toList, u.oneCell' = true) :
  (storeVar T ⟨g, o, none⟩ v).run P w = .ok () (w.setRow g (cur.toList.take o ++ v.cells.toList ++ cur.toList.drop (o + n)).toArray) := by
 obtain ⟨i, hi, hn⟩ := h.info
 have hst := run_storeCells_at P g o ty v.cells.toList 0 cur w hg (by simpa [hv] using hfit) h1
 simp only [pJ2, dH2, hv] at hst
 unfold storeVar
 simp [sizeOf, typeInfo, hi, hn, hv, hst]
theorem LfOK.one {c : Lf} {v : Value} (h : LfOK w Z γ c v) (hk : c.known = true) : v.oneCell' = true := by
 cases c with
 | u => cases hk
 | un => cases hk
 | v t x => exact Ty.Rep.one h v uG2
 | nl => cases h; rfl
 | o r => obtain ⟨e, A, n, c, e2⟩ := h; rw [e, e2]; rfl
 | oh r k => obtain ⟨A, n, c, e, e2, _⟩ := h; rw [e2]; rfl
 | ot r l z => obtain ⟨A, n, c, e, e2, _⟩ := h; rw [e2]; rfl
 | p b off => obtain ⟨g, _, e⟩ := h; rw [e]; rfl
 | np => cases h; rfl
 | ni => cases h; rfl
 | fn f cs =>
  obtain ⟨h1, h2, _⟩ := h
  rw [h1]
  unfold Wv
  split
  ·rfl
  ·rename_i hf
   rcases h2 with h2 | ⟨p, h2⟩
   ·exact absurd h2 hf
   ·rw [h2]; rfl
theorem nK {ob : List (Nat × Ob)} {x : Slot} {v : Value} {l : List Lf} (h : SlotOK w Z γ ob x v) (hc : x.cells = some l) :
  All2 (LfOK w Z γ) l v.cells.toList ∧ ∀ u ∈ v.cells.toList, u.oneCell' = true := by
 cases x with
 | lf c =>
  simp only [Slot.cells] at hc
  split at hc
  ·rename_i hk
   cases hc
   have h1 := LfOK.one h hk
   have : v.cells.toList = [v] := by cases v <;> first | rfl | cases h1
   rw [this]
   exact ⟨⟨h, trivial⟩, by simpa using h1⟩
  ·cases hc
 | ag m =>
  simp only [Slot.cells] at hc
  split at hc
  ·rename_i hk
   cases hc
   obtain ⟨cs, e, h⟩ := h
   subst e
   refine ⟨h, fun u hu => ?_⟩
   obtain ⟨i, hi⟩ := List.getElem?_of_mem hu
   have hlt : i < l.length := by rw [All2.length h]; exact (xH2.1 hi).1
   exact LfOK.one (All2.get i l[i] u h (bH2 hlt) hi) (pH2.1 hk _ (uJ2 hlt))
  ·cases hc
 | _ => cases hc
end
end Go.GV
