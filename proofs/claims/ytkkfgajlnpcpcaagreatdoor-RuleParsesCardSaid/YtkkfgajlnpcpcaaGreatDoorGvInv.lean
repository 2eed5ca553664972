/-
GV: how the small state stands to the model's world. (This session's own text.)
-/
import Derived.Test.YtkkfgajlnpcpcaaGreatDoorGvEval
set_option linter.unusedVariables false
set_option linter.unusedSimpArgs false
namespace Go.GV

/-! ### Worlds: what lay there stays, but for the blocks in M -/
structure Frm (M : Nat → Prop) (w w' : World) : Prop where
  os : w'.os = w.os
  tape : w'.tape = w.tape
  output : w'.output = w.output
  size : w.heap.size ≤ w'.heap.size
  block : ∀ k, k < w.heap.size → ¬ M k → w'.heap[k]? = w.heap[k]?
theorem Frm.refl (M : Nat → Prop) (w : World) : Frm M w w := ⟨rfl, rfl, rfl, Nat.le_refl _, fun _ _ _ => rfl⟩
theorem Frm.trans {M M' : Nat → Prop} {w w1 w2 : World} (h : Frm M w w1) (h' : Frm M' w1 w2) (hM : ∀ k, k < w.heap.size → M' k → M k) : Frm M w w2 :=
  ⟨h'.os.trans h.os, h'.tape.trans h.tape, h'.output.trans h.output, Nat.le_trans h.size h'.size, fun k hk hm =>
    (h'.block k (Nat.lt_of_lt_of_le hk h.size) (fun hx => hm (hM k hk hx))).trans (h.block k hk hm)⟩
theorem Frm.mono {M M' : Nat → Prop} {w w' : World} (h : Frm M w w') (hM : ∀ k, k < w.heap.size → M k → M' k) : Frm M' w w' :=
  ⟨h.os, h.tape, h.output, h.size, fun k hk hm => h.block k hk (fun hx => hm (hM k hk hx))⟩
theorem Frm.of_grown {w w' : World} {row : Option Nat} (h : w.grownBy w' row) : Frm (fun k => row = some k) w w' :=
  ⟨h.os, h.tape, h.output, h.size, fun k hk hm => h.block k hk (fun e => hm e.symm)⟩
theorem Frm.alloc (w : World) (o : Obj) : Frm (fun _ => False) w (w.alloc o) := ⟨rfl, rfl, rfl, by simp, fun k hk _ => heap_alloc_old w o hk⟩
theorem Frm.setRow (w : World) (g : Nat) (cs : Array Value) : Frm (fun k => k = g) w (w.setRow g cs) :=
  ⟨rfl, rfl, rfl, by simp, fun k _ hk => setRow_other w g k cs hk⟩

/-! ### Immutable values -/
def RepL {α : Type} (R : α → List Value → Prop) : List α → List Value → Prop
  | [], cs => cs = []
  | x :: xs, cs => ∃ a b, cs = a ++ b ∧ R x a ∧ RepL R xs b
mutual
def Ty.Rep (w : World) (Z : Nat → Prop) : (t : Ty) → t.D → List Value → Prop
  | .int k, x, cs => cs = [.int k x]
  | .bool, x, cs => cs = [.bool x]
  | .str, x, cs => cs = [.string x]
  | .err, x, cs => ∃ v, cs = [v] ∧ ((x = true ∧ v = .nilIface) ∨ (x = false ∧ ∃ T u, v = .iface T u))
  | .st fs, x, cs => fs.Rep w Z x cs
  | .row _ t, xs, cs => ∃ A cap news, cs = [.slice A (xs : List t.D).length cap] ∧ (xs : List t.D).length ≤ cap ∧ RepL (t.Rep w Z) (xs : List t.D) news ∧
      ((xs = ([] : List t.D) ∧ (A = none → cap = 0)) ∨ ∃ ad, A = some ad ∧ Z ad.block ∧ ∀ j u, news[j]? = some u → w.cell? (ad.add j) = some u)
  | .any T t, x, cs => ∃ v l, cs = [.iface T v] ∧ (if t.isSt = true then v = .agg l.toArray else l = [v]) ∧ t.Rep w Z x l
def Tys.Rep (w : World) (Z : Nat → Prop) : (ts : Tys) → ts.D → List Value → Prop
  | .nil, _, cs => cs = []
  | .cons t ts, x, cs => ∃ a b, cs = a ++ b ∧ t.Rep w Z x.1 a ∧ ts.Rep w Z x.2 b
end

section
variable {w w' : World} {Z Z' : Nat → Prop}
theorem RepL.imp {α : Type} {R R' : α → List Value → Prop} (h : ∀ x cs, R x cs → R' x cs) : ∀ {xs : List α} {cs : List Value}, RepL R xs cs → RepL R' xs cs
  | [], _, hr => hr
  | _ :: _, _, ⟨a, b, e, h1, h2⟩ => ⟨a, b, e, h _ _ h1, RepL.imp h h2⟩
theorem RepL.length {α : Type} {R : α → List Value → Prop} {n : Nat} (h : ∀ x cs, R x cs → cs.length = n) : ∀ {xs : List α} {cs : List Value}, RepL R xs cs → cs.length = xs.length * n
  | [], _, hr => by cases hr; simp
  | _ :: _, _, ⟨a, b, e, h1, h2⟩ => by
    subst e
    rw [List.length_append, h _ _ h1, RepL.length h h2, List.length_cons, Nat.succ_mul, Nat.add_comm]
theorem RepL.append {α : Type} {R : α → List Value → Prop} : ∀ {xs ys : List α} {cs ds : List Value}, RepL R xs cs → RepL R ys ds → RepL R (xs ++ ys) (cs ++ ds)
  | [], _, _, _, h, h' => by cases h; simpa using h'
  | _ :: _, _, _, _, ⟨a, b, e, h1, h2⟩, h' => by subst e; exact ⟨a, _, by rw [List.append_assoc], h1, RepL.append h2 h'⟩
theorem RepL.all {α : Type} {R : α → List Value → Prop} {Q : Value → Prop} (h : ∀ x cs, R x cs → ∀ v ∈ cs, Q v) : ∀ {xs : List α} {cs : List Value}, RepL R xs cs → ∀ v ∈ cs, Q v
  | [], _, hr => by cases hr; simp
  | _ :: _, _, ⟨a, b, e, h1, h2⟩ => by
    subst e
    intro v hv
    rcases List.mem_append.1 hv with hv | hv
    · exact h _ _ h1 v hv
    · exact RepL.all h h2 v hv
/-- The cells of element i. -/
theorem RepL.getElem {α : Type} {R : α → List Value → Prop} {n : Nat} (h : ∀ x cs, R x cs → cs.length = n) : ∀ {xs : List α} {cs : List Value}, RepL R xs cs → ∀ (i : Nat) (x : α), xs[i]? = some x →
    ∃ a, R x a ∧ ∀ j u, a[j]? = some u → cs[i * n + j]? = some u
  | [], _, _, i, x, hx => by simp at hx
  | y :: ys, _, ⟨a, b, e, h1, h2⟩, i, x, hx => by
    subst e
    have hl := h _ _ h1
    cases i with
    | zero =>
      simp at hx
      subst hx
      refine ⟨a, h1, fun j u hu => ?_⟩
      have hj : j < a.length := (List.getElem?_eq_some_iff.1 hu).1
      rw [Nat.zero_mul, Nat.zero_add, List.getElem?_append_left hj]
      exact hu
    | succ i =>
      simp at hx
      obtain ⟨c, hc, hcs⟩ := RepL.getElem h h2 i x hx
      refine ⟨c, hc, fun j u hu => ?_⟩
      rw [List.getElem?_append_right (by rw [Nat.succ_mul]; omega), hl, show (i + 1) * n + j - n = i * n + j by rw [Nat.succ_mul]; omega]
      exact hcs j u hu
theorem RepL.take {α : Type} {R : α → List Value → Prop} {n : Nat} (h : ∀ x cs, R x cs → cs.length = n) : ∀ {xs : List α} {cs : List Value}, RepL R xs cs → ∀ k, RepL R (xs.take k) (cs.take (k * n))
  | [], _, hr, k => by cases hr; simp [RepL]
  | y :: ys, _, ⟨a, b, e, h1, h2⟩, k => by
    subst e
    have hl := h _ _ h1
    cases k with
    | zero => simp [RepL]
    | succ k =>
      refine ⟨a, b.take (k * n), ?_, h1, RepL.take h h2 k⟩
      rw [List.take_append, List.take_of_length_le (by rw [hl, Nat.succ_mul]; omega), hl, show (k + 1) * n - n = k * n by rw [Nat.succ_mul]; omega]
theorem RepL.drop {α : Type} {R : α → List Value → Prop} {n : Nat} (h : ∀ x cs, R x cs → cs.length = n) : ∀ {xs : List α} {cs : List Value}, RepL R xs cs → ∀ k, RepL R (xs.drop k) (cs.drop (k * n))
  | [], _, hr, k => by cases hr; simp [RepL]
  | y :: ys, _, ⟨a, b, e, h1, h2⟩, k => by
    subst e
    have hl := h _ _ h1
    cases k with
    | zero => rw [Nat.zero_mul, List.drop_zero, List.drop_zero]; exact ⟨a, b, rfl, h1, h2⟩
    | succ k =>
      rw [List.drop_succ_cons, List.drop_append (l₁ := a), List.drop_of_length_le (l := a) (by rw [hl, Nat.succ_mul]; omega), hl, show (k + 1) * n - n = k * n by rw [Nat.succ_mul]; omega]
      exact RepL.drop h h2 k
/-- One element is another now. -/
theorem RepL.set {α : Type} {R : α → List Value → Prop} {n : Nat} (h : ∀ x cs, R x cs → cs.length = n) : ∀ {xs : List α} {cs : List Value}, RepL R xs cs → ∀ (i : Nat) (x : α) (a : List Value), i < xs.length → R x a →
    RepL R (xs.set i x) (cs.take (i * n) ++ a ++ cs.drop (i * n + n))
  | [], _, _, i, x, a, hi, _ => by simp at hi
  | y :: ys, _, ⟨b, c, e, h1, h2⟩, i, x, a, hi, hx => by
    subst e
    have hl := h _ _ h1
    cases i with
    | zero =>
      refine ⟨a, c, ?_, hx, h2⟩
      rw [Nat.zero_mul, List.take_zero, List.nil_append, Nat.zero_add, List.drop_append, List.drop_of_length_le (by omega), hl]
      simp
    | succ i =>
      have ih := RepL.set h h2 i x a (by simpa using hi) hx
      refine ⟨b, _, ?_, h1, ih⟩
      rw [List.take_append, List.take_of_length_le (by rw [hl, Nat.succ_mul]; omega), hl, List.drop_append, List.drop_of_length_le (by rw [hl, Nat.succ_mul]; omega), hl,
        show (i + 1) * n - n = i * n by rw [Nat.succ_mul]; omega, show (i + 1) * n + n - n = i * n + n by rw [Nat.succ_mul]; omega]
      simp [List.append_assoc]
theorem RepL.replicate {α : Type} {R : α → List Value → Prop} (x : α) (a : List Value) (h : R x a) : ∀ n, RepL R (List.replicate n x) (List.replicate n a).flatten
  | 0 => by simp [RepL]
  | n + 1 => ⟨a, (List.replicate n a).flatten, by simp [List.replicate_succ], h, RepL.replicate x a h n⟩

mutual
theorem Ty.Rep.length : ∀ {t : Ty} {x : t.D} {cs : List Value}, t.Rep w Z x cs → cs.length = t.sz
  | .int _, _, _, h | .bool, _, _, h | .str, _, _, h => by simp only [Ty.Rep] at h; subst h; rfl
  | .err, _, _, h => by obtain ⟨v, e, _⟩ := h; subst e; rfl
  | .st fs, _, _, h => Tys.Rep.length (ts := fs) h
  | .row _ t, _, _, h => by obtain ⟨A, cap, news, e, _⟩ := h; subst e; rfl
  | .any _ t, _, _, h => by obtain ⟨v, l, e, _⟩ := h; subst e; rfl
theorem Tys.Rep.length : ∀ {ts : Tys} {x : ts.D} {cs : List Value}, ts.Rep w Z x cs → cs.length = ts.sz
  | .nil, _, _, h => by simp only [Tys.Rep] at h; subst h; rfl
  | .cons t ts, _, _, h => by
    obtain ⟨a, b, e, h1, h2⟩ := h
    subst e
    rw [List.length_append, Ty.Rep.length h1, Tys.Rep.length h2]
    rfl
end
mutual
theorem Ty.Rep.one : ∀ {t : Ty} {x : t.D} {cs : List Value}, t.Rep w Z x cs → ∀ v ∈ cs, v.oneCell' = true
  | .int _, _, _, h | .bool, _, _, h | .str, _, _, h => by simp only [Ty.Rep] at h; subst h; simp [Value.oneCell']
  | .err, _, _, h => by
    obtain ⟨v, e, h⟩ := h
    subst e
    rcases h with ⟨_, h⟩ | ⟨_, T, u, h⟩ <;> subst h <;> simp [Value.oneCell']
  | .st fs, _, _, h => Tys.Rep.one (ts := fs) h
  | .row _ t, _, _, h => by obtain ⟨A, cap, news, e, _⟩ := h; subst e; simp [Value.oneCell']
  | .any _ t, _, _, h => by obtain ⟨v, l, e, _⟩ := h; subst e; simp [Value.oneCell']
theorem Tys.Rep.one : ∀ {ts : Tys} {x : ts.D} {cs : List Value}, ts.Rep w Z x cs → ∀ v ∈ cs, v.oneCell' = true
  | .nil, _, _, h => by simp only [Tys.Rep] at h; subst h; simp
  | .cons t ts, _, _, h => by
    obtain ⟨a, b, e, h1, h2⟩ := h
    subst e
    intro v hv
    rcases List.mem_append.1 hv with hv | hv
    · exact Ty.Rep.one h1 v hv
    · exact Tys.Rep.one h2 v hv
end
/-- What is read stays: more may be immutable. -/
def Stay (w w' : World) (Z Z' : Nat → Prop) : Prop := ∀ k, Z k → Z' k ∧ ∀ a : Addr, a.block = k → w'.cell? a = w.cell? a
theorem Stay.of_block (h : ∀ k, Z k → Z' k ∧ w'.heap[k]? = w.heap[k]?) : Stay w w' Z Z' := fun k hk => ⟨(h k hk).1, fun a ha => World.cell?_of_block (by rw [ha]; exact (h k hk).2)⟩
theorem Stay.refl (w : World) (Z : Nat → Prop) : Stay w w Z Z := fun _ h => ⟨h, fun _ _ => rfl⟩
theorem Stay.more (w : World) (h : ∀ k, Z k → Z' k) : Stay w w Z Z' := fun k hk => ⟨h k hk, fun _ _ => rfl⟩
@[simp] theorem add_block (a : Addr) (n : Nat) : (a.add n).block = a.block := by unfold Addr.add; split <;> rfl
mutual
theorem Ty.Rep.stay (hs : Stay w w' Z Z') : ∀ {t : Ty} {x : t.D} {cs : List Value}, t.Rep w Z x cs → t.Rep w' Z' x cs
  | .int _, _, _, h | .bool, _, _, h | .str, _, _, h => h
  | .err, _, _, h => h
  | .st fs, _, _, h => Tys.Rep.stay hs (ts := fs) h
  | .row _ t, xs, _, h => by
    obtain ⟨A, cap, news, e, hc, hl, h⟩ := h
    refine ⟨A, cap, news, e, hc, RepL.imp (fun _ _ h => Ty.Rep.stay hs h) hl, ?_⟩
    rcases h with h | ⟨ad, ha, hz, h⟩
    · exact .inl h
    · exact .inr ⟨ad, ha, (hs _ hz).1, fun j u hu => ((hs _ hz).2 _ (by simp)).trans (h j u hu)⟩
  | .any T t, x, _, h => by
    obtain ⟨v, l, e, h1, h2⟩ := h
    exact ⟨v, l, e, h1, Ty.Rep.stay hs h2⟩
theorem Tys.Rep.stay (hs : Stay w w' Z Z') : ∀ {ts : Tys} {x : ts.D} {cs : List Value}, ts.Rep w Z x cs → ts.Rep w' Z' x cs
  | .nil, _, _, h => h
  | .cons _ _, _, _, ⟨a, b, e, h1, h2⟩ => ⟨a, b, e, Ty.Rep.stay hs h1, Tys.Rep.stay hs h2⟩
end

/-! ### Cells, slots, objects -/
def blkV : Value → Option Nat
  | .slice (some a) _ _ => some a.block
  | .pointer (some a) => some a.block
  | _ => none
/-- A function value over what it has captured; an interface value over an address. -/
def Wv (f : Nat) (ps : List Value) : Value := if Nat.blt f ifB = true then .func (.func f) #[] ps.toArray else match ps with | [p] => .iface (f - ifB) p | _ => .nilIface
def okW (f : Nat) (ps : List Value) : Prop := Nat.blt f ifB = true ∨ ∃ p, ps = [p]
def capsV : Value → List Value
  | .func _ _ ps => ps.toList
  | .iface _ p => [p]
  | _ => []
theorem capsV_W {f : Nat} {ps : List Value} (h : okW f ps) : capsV (Wv f ps) = ps := by
  unfold Wv
  split
  · rfl
  · rename_i hf
    rcases h with h | ⟨p, rfl⟩
    · exact absurd h hf
    · rfl
theorem Wv_fn {f : Nat} (h : Nat.blt f ifB = true) (ps : List Value) : Wv f ps = .func (.func f) #[] ps.toArray := by unfold Wv; rw [if_pos h]
theorem Wv_if (T : Nat) (p : Value) : Wv (ifB + T) [p] = .iface T p := by
  have : ¬ Nat.blt (ifB + T) ifB = true := fun h => by have := Nat.le_of_ble_eq_true h; omega
  unfold Wv
  rw [if_neg this]
  show Value.iface (ifB + T - ifB) p = _
  rw [Nat.add_sub_cancel_left]
variable (w Z) in
def LfOK (γ : Nat → Value) : Lf → Value → Prop
  | .u, _ => True
  | .un, v => v = undef
  | .v t x, v => t.Rep w Z x [v]
  | .nl, v => v = .slice none 0 0
  | .o r, v => v = γ r ∧ ∃ A n c, γ r = .slice A n c
  | .oh r h, v => ∃ A n c, γ r = .slice A n c ∧ v = .slice A h.toNat c ∧ 0 ≤ h ∧ h.toNat ≤ n
  | .ot r l z, v => ∃ A n c, γ r = .slice A n c ∧ v = .slice (if c = l.toNat then A else A.map (·.add (l.toNat * z))) (n - l.toNat) (c - l.toNat) ∧ 0 ≤ l ∧ l.toNat ≤ n
  | .p b off, v => ∃ g, γ b = .pointer (some ⟨g, 0, none⟩) ∧ v = .pointer (some ⟨g, off, none⟩)
  | .np, v => v = .pointer none
  | .ni, v => v = .nilIface
  | .fn f cs, v => v = Wv f (cs.map γ) ∧ okW f (cs.map γ) ∧ ∀ b ∈ cs, ∃ g, γ b = .pointer (some ⟨g, 0, none⟩)
def All2 {α β : Type} (R : α → β → Prop) : List α → List β → Prop
  | [], [] => True
  | a :: l, b :: m => R a b ∧ All2 R l m
  | _, _ => False
variable (w Z) in
def SlotOK (γ : Nat → Value) (ob : List (Nat × Ob)) : Slot → Value → Prop
  | .lf c, v => LfOK w Z γ c v
  | .ag l, v => ∃ cs, v = .agg cs ∧ All2 (LfOK w Z γ) l cs.toList
  | .tp l, v => ∃ vs, v = .tuple vs ∧ All2 (fun x v => if x.1 = true then ∃ cs, v = .agg cs ∧ All2 (LfOK w Z γ) x.2 cs.toList else ∃ c, x.2 = [c] ∧ LfOK w Z γ c v) l vs.toList
  | .q l, v => ∃ ad vs, v = .pointer (some ad) ∧ Z ad.block ∧ All2 (LfOK w Z γ) l vs ∧ ∀ j u, vs[j]? = some u → w.cell? (ad.add j) = some u
  | .e r i off, v => ∀ E t xs, look ob r = some (.row E t xs) → 0 ≤ i ∧ i.toNat < xs.length ∧ ∃ g n c, γ r = .slice (some ⟨g, 0, none⟩) n c ∧ v = .pointer (some ⟨g, i.toNat * t.sz + off, none⟩)
variable (w Z) in
def ObOK (γ : Nat → Value) (n : Nat) : Ob → Prop
  | .row E t xs => ∃ cs, w.ownsRow 0 E t.sz (γ n) xs.length cs ∧ RepL (t.Rep w Z) xs cs
  | .box T l => ∃ g cur, γ n = .pointer (some ⟨g, 0, none⟩) ∧ w.heap[g]? = some (.cells cur T (0, 0)) ∧ All2 (LfOK w Z γ) l cur.toList
/-- The heap's part of what holds all along: w0: where the call began; M: the blocks that it was handed for its own; Z0: those that were immutable then; Z: those that are so now. -/
structure Inv (w0 : World) (M Z0 : Nat → Prop) (w : World) (Z : Nat → Prop) (γ : Nat → Value) (ob : List (Nat × Ob)) : Prop where
  frm : Frm M w0 w
  zlt : ∀ b, Z b → b < w.heap.size
  zold : ∀ b, Z b → b < w0.heap.size → Z0 b ∨ M b
  obs : ∀ n o, look ob n = some o → ObOK w Z γ n o
  disj : ∀ n m o o' b, look ob n = some o → look ob m = some o' → blkV (γ n) = some b → blkV (γ m) = some b → n = m
  own : ∀ n o b, look ob n = some o → blkV (γ n) = some b → ¬ Z b ∧ (b < w0.heap.size → M b)
variable (w Z) in
structure SlotsOK (γ : Nat → Value) (ob : List (Nat × Ob)) (sl : List Slot) (tm : Array Value) : Prop where
  len : sl.length ≤ tm.size
  ok : ∀ i, SlotOK w Z γ ob (sl.getD i (.lf .u)) (tm.getD i undef)
end

/-! ### Lists by names -/
theorem beqt {a b : Nat} : (Nat.beq a b = true) ↔ a = b := by rw [Nat.beq_eq]
theorem look_put {α : Type} (l : List (Nat × α)) (n : Nat) (a : α) (m : Nat) : look (put l n a) m = if n = m then some a else look l m := by
  induction l with
  | nil => simp only [put, look, beqt]
  | cons x l ih =>
    obtain ⟨k, b⟩ := x
    simp only [put, beqt]
    by_cases hk : k = n
    · subst hk
      simp only [ite_true, look, beqt]
      by_cases h : k = m <;> simp [h]
    · simp only [hk, if_false, look, ih, beqt]
      by_cases h : k = m
      · subst h
        simp [Ne.symm hk]
      · simp [h]
theorem look_del {α : Type} (l : List (Nat × α)) (n m : Nat) : look (del l n) m = if n = m then none else look l m := by
  induction l with
  | nil => simp [del, look]
  | cons x l ih =>
    obtain ⟨k, b⟩ := x
    simp only [del, beqt]
    by_cases hk : k = n
    · subst hk
      simp only [ite_true, ih, look, beqt]
      by_cases h : k = m <;> simp [h]
    · simp only [hk, if_false, look, ih, beqt]
      by_cases h : k = m
      · subst h
        simp [Ne.symm hk]
      · simp [h]
theorem look_map {α β : Type} (f : α → β) (l : List (Nat × α)) (m : Nat) : look (l.map fun x => (x.1, f x.2)) m = (look l m).map f := by
  induction l with
  | nil => rfl
  | cons x l ih =>
    obtain ⟨k, b⟩ := x
    simp only [List.map_cons, look, ih]
    split <;> rfl
theorem look_mem {α : Type} {l : List (Nat × α)} {n : Nat} {a : α} (h : look l n = some a) : (n, a) ∈ l := by
  induction l with
  | nil => cases h
  | cons x l ih =>
    obtain ⟨k, b⟩ := x
    simp only [look, beqt] at h
    split at h
    · rename_i hk
      cases h
      subst hk
      exact List.mem_cons_self
    · exact List.mem_cons_of_mem _ (ih h)
end Go.GV
