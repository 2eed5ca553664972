/-
GV: what keeps the small state true: cells and values, what is left alone, rows that become values. (This session's own text.)
-/
import Derived.Test.YtkkfgajlnpcpcaaGreatDoorGvInv
set_option linter.unusedVariables false
set_option linter.unusedSimpArgs false
namespace Go.GV
section
variable {w w' : World} {Z Z' : Nat → Prop} {γ γ' : Nat → Value}

/-! ### Lists in step -/
theorem All2.length {α β : Type} {R : α → β → Prop} : ∀ {l : List α} {m : List β}, All2 R l m → l.length = m.length
  | [], [], _ => rfl
  | _ :: _, _ :: _, h => by simp [All2.length h.2]
  | [], _ :: _, h => h.elim
  | _ :: _, [], h => h.elim
theorem All2.imp {α β : Type} {R R' : α → β → Prop} : ∀ {l : List α} {m : List β}, (∀ a ∈ l, ∀ b, R a b → R' a b) → All2 R l m → All2 R' l m
  | [], [], _, _ => trivial
  | a :: _, b :: _, h, h2 => ⟨h a List.mem_cons_self b h2.1, All2.imp (fun a ha => h a (List.mem_cons_of_mem _ ha)) h2.2⟩
  | [], _ :: _, _, h => h.elim
  | _ :: _, [], _, h => h.elim
theorem All2.map {α α' β : Type} {R : α → β → Prop} {R' : α' → β → Prop} (f : α → α') : ∀ {l : List α} {m : List β}, (∀ a ∈ l, ∀ b, R a b → R' (f a) b) → All2 R l m → All2 R' (l.map f) m
  | [], [], _, _ => trivial
  | a :: _, b :: _, h, h2 => ⟨h a List.mem_cons_self b h2.1, All2.map f (fun a ha => h a (List.mem_cons_of_mem _ ha)) h2.2⟩
  | [], _ :: _, _, h => h.elim
  | _ :: _, [], _, h => h.elim
theorem All2.append {α β : Type} {R : α → β → Prop} : ∀ {l l' : List α} {m m' : List β}, All2 R l m → All2 R l' m' → All2 R (l ++ l') (m ++ m')
  | [], _, [], _, _, h => h
  | _ :: _, _, _ :: _, _, h, h' => ⟨h.1, All2.append h.2 h'⟩
  | [], _, _ :: _, _, h, _ => h.elim
  | _ :: _, _, [], _, h, _ => h.elim
theorem All2.take {α β : Type} {R : α → β → Prop} : ∀ {l : List α} {m : List β} (n : Nat), All2 R l m → All2 R (l.take n) (m.take n)
  | _, _, 0, _ => by simp [All2]
  | [], [], _ + 1, _ => by simp [All2]
  | _ :: _, _ :: _, n + 1, h => ⟨h.1, All2.take n h.2⟩
  | [], _ :: _, _, h => h.elim
  | _ :: _, [], _, h => h.elim
theorem All2.drop {α β : Type} {R : α → β → Prop} : ∀ {l : List α} {m : List β} (n : Nat), All2 R l m → All2 R (l.drop n) (m.drop n)
  | _, _, 0, h => by simpa using h
  | [], [], _ + 1, _ => by simp [All2]
  | _ :: _, _ :: _, n + 1, h => All2.drop n h.2
  | [], _ :: _, _, h => h.elim
  | _ :: _, [], _, h => h.elim
theorem All2.get {α β : Type} {R : α → β → Prop} : ∀ {l : List α} {m : List β} (i : Nat) (a : α) (b : β), All2 R l m → l[i]? = some a → m[i]? = some b → R a b
  | _ :: _, _ :: _, 0, _, _, h, h1, h2 => by simp at h1 h2; subst h1 h2; exact h.1
  | _ :: _, _ :: _, i + 1, a, b, h, h1, h2 => All2.get i a b h.2 (by simpa using h1) (by simpa using h2)
  | [], _, _, _, _, _, h1, _ => by simp at h1
  | _ :: _, [], _, _, _, h, _, _ => h.elim
theorem All2.split {α β : Type} {R : α → β → Prop} : ∀ {l l' : List α} {m : List β}, All2 R (l ++ l') m → ∃ a b, m = a ++ b ∧ All2 R l a ∧ All2 R l' b
  | [], _, m, h => ⟨[], m, rfl, trivial, h⟩
  | _ :: _, _, b :: m, h => by
    obtain ⟨x, y, e, h1, h2⟩ := All2.split h.2
    subst e
    exact ⟨b :: x, y, rfl, ⟨h.1, h1⟩, h2⟩
  | _ :: _, _, [], h => h.elim

/-! ### A value by its cells -/
mutual
theorem leaves_ok (γ : Nat → Value) : ∀ {t : Ty} {x : t.D} {cs : List Value}, t.Rep w Z x cs → All2 (LfOK w Z γ) (t.leaves x) cs
  | .int k, x, _, h | .bool, x, _, h | .str, x, _, h => by simp only [Ty.Rep] at h; subst h; exact ⟨rfl, trivial⟩
  | .err, _, _, h => by obtain ⟨v, e, h⟩ := h; subst e; exact ⟨⟨v, rfl, h⟩, trivial⟩
  | .st fs, _, _, h => leavess_ok γ (ts := fs) h
  | .row _ t, xs, _, h => by obtain ⟨A, cap, news, e, h⟩ := h; subst e; exact ⟨⟨A, cap, news, rfl, h⟩, trivial⟩
  | .any _ t, xs, _, h => by obtain ⟨v, l, e, h⟩ := h; subst e; exact ⟨⟨v, l, rfl, h⟩, trivial⟩
theorem leavess_ok (γ : Nat → Value) : ∀ {ts : Tys} {x : ts.D} {cs : List Value}, ts.Rep w Z x cs → All2 (LfOK w Z γ) (ts.leaves x) cs
  | .nil, _, _, h => by simp only [Tys.Rep] at h; subst h; trivial
  | .cons _ _, _, _, ⟨a, b, e, h1, h2⟩ => by subst e; exact All2.append (leaves_ok γ h1) (leavess_ok γ h2)
end
theorem nl_rep {E : TypeId} {t : Ty} : (Ty.row E t).Rep w Z ([] : List t.D) [.slice none 0 0] := ⟨none, 0, [], rfl, Nat.le_refl _, rfl, .inl ⟨rfl, fun _ => rfl⟩⟩
theorem as_ok {t : Ty} {c : Lf} {x : t.D} {v : Value} (h : c.as t = some x) (hc : LfOK w Z γ c v) : t.Rep w Z x [v] := by
  cases c with
  | v t' y =>
    obtain ⟨e, hx⟩ := cast?_some h
    subst e
    subst hx
    exact hc
  | nl =>
    cases t with
    | row E t => simp only [Lf.as] at h; cases h; simp only [LfOK] at hc; subst hc; exact nl_rep
    | _ => cases h
  | ni =>
    cases t with
    | err => simp only [Lf.as] at h; cases h; exact ⟨v, rfl, .inl ⟨rfl, hc⟩⟩
    | _ => cases h
  | fn f cs =>
    cases t with
    | err =>
      simp only [Lf.as] at h
      split at h
      · rename_i hf
        cases h
        obtain ⟨h1, h2, _⟩ := hc
        refine ⟨v, rfl, .inr ⟨rfl, ?_⟩⟩
        have hn : ¬ Nat.blt f ifB = true := fun hb => by have := Nat.le_of_ble_eq_true hb; have := Nat.le_of_ble_eq_true hf; omega
        rcases h2 with h2 | ⟨p, h2⟩
        · exact absurd h2 hn
        · rw [h2] at h1
          unfold Wv at h1
          rw [if_neg hn] at h1
          exact ⟨_, _, h1⟩
      · cases h
    | _ => cases h
  | _ => cases h
mutual
theorem pack_ok : ∀ {t : Ty} {l : List Lf} {x : t.D} {r : List Lf} {vs : List Value}, t.pack l = some (x, r) → All2 (LfOK w Z γ) l vs → ∃ a b, vs = a ++ b ∧ t.Rep w Z x a ∧ All2 (LfOK w Z γ) r b
  | .st fs, _, _, _, _, h, hl => packs_ok (ts := fs) h hl
  | .int k, l, x, r, vs, h, hl => by
    cases l with
    | nil => simp [Ty.pack] at h
    | cons c l =>
      simp only [Ty.pack] at h
      split at h
      · rename_i y hy
        cases h
        cases vs with
        | nil => exact hl.elim
        | cons v vs => exact ⟨[v], vs, rfl, as_ok hy hl.1, hl.2⟩
      · cases h
  | .bool, l, x, r, vs, h, hl => by
    cases l with
    | nil => simp [Ty.pack] at h
    | cons c l =>
      simp only [Ty.pack] at h
      split at h
      · rename_i y hy
        cases h
        cases vs with
        | nil => exact hl.elim
        | cons v vs => exact ⟨[v], vs, rfl, as_ok hy hl.1, hl.2⟩
      · cases h
  | .str, l, x, r, vs, h, hl => by
    cases l with
    | nil => simp [Ty.pack] at h
    | cons c l =>
      simp only [Ty.pack] at h
      split at h
      · rename_i y hy
        cases h
        cases vs with
        | nil => exact hl.elim
        | cons v vs => exact ⟨[v], vs, rfl, as_ok hy hl.1, hl.2⟩
      · cases h
  | .err, l, x, r, vs, h, hl => by
    cases l with
    | nil => simp [Ty.pack] at h
    | cons c l =>
      simp only [Ty.pack] at h
      split at h
      · rename_i y hy
        cases h
        cases vs with
        | nil => exact hl.elim
        | cons v vs => exact ⟨[v], vs, rfl, as_ok hy hl.1, hl.2⟩
      · cases h
  | .row E t, l, x, r, vs, h, hl => by
    cases l with
    | nil => simp [Ty.pack] at h
    | cons c l =>
      simp only [Ty.pack] at h
      split at h
      · rename_i y hy
        cases h
        cases vs with
        | nil => exact hl.elim
        | cons v vs => exact ⟨[v], vs, rfl, as_ok hy hl.1, hl.2⟩
      · cases h
  | .any E t, l, x, r, vs, h, hl => by
    cases l with
    | nil => simp [Ty.pack] at h
    | cons c l =>
      simp only [Ty.pack] at h
      split at h
      · rename_i y hy
        cases h
        cases vs with
        | nil => exact hl.elim
        | cons v vs => exact ⟨[v], vs, rfl, as_ok hy hl.1, hl.2⟩
      · cases h
theorem packs_ok : ∀ {ts : Tys} {l : List Lf} {x : ts.D} {r : List Lf} {vs : List Value}, ts.pack l = some (x, r) → All2 (LfOK w Z γ) l vs → ∃ a b, vs = a ++ b ∧ ts.Rep w Z x a ∧ All2 (LfOK w Z γ) r b
  | .nil, l, x, r, vs, h, hl => by simp only [Tys.pack] at h; cases h; exact ⟨[], vs, rfl, rfl, hl⟩
  | .cons t ts, l, x, r, vs, h, hl => by
    simp only [Tys.pack] at h
    split at h
    · rename_i y r1 h1
      split at h
      · rename_i z r2 h2
        cases h
        obtain ⟨a, b, e, ha, hb⟩ := pack_ok h1 hl
        obtain ⟨c, d, e2, hc, hd⟩ := packs_ok h2 hb
        subst e e2
        exact ⟨a ++ c, d, by rw [List.append_assoc], ⟨a, c, rfl, ha, hc⟩, hd⟩
      · cases h
    · cases h
end

/-! ### What keeps slots -/
theorem LfOK.keep (hs : Stay w w' Z Z') {c : Lf} {v : Value} (h : LfOK w Z γ c v) (hn : ∀ n, c.names n = true → γ' n = γ n) : LfOK w' Z' γ' c v := by
  cases c with
  | u => trivial
  | un => exact h
  | v t x => exact Ty.Rep.stay hs h
  | nl => exact h
  | o r => simpa only [LfOK, hn r (beqt.2 rfl)] using h
  | oh r k => simpa only [LfOK, hn r (beqt.2 rfl)] using h
  | ot r l z => simpa only [LfOK, hn r (beqt.2 rfl)] using h
  | p b off => simpa only [LfOK, hn b (beqt.2 rfl)] using h
  | np => exact h
  | ni => exact h
  | fn f cs =>
    have he : ∀ b ∈ cs, γ' b = γ b := fun b hb => hn b (by simp only [Lf.names, List.any_eq_true]; exact ⟨b, hb, beqt.2 rfl⟩)
    have hm : cs.map γ' = cs.map γ := List.map_congr_left he
    exact ⟨by rw [hm]; exact h.1, by rw [hm]; exact h.2.1, fun b hb => by rw [he b hb]; exact h.2.2 b hb⟩
theorem LfsOK.keep (hs : Stay w w' Z Z') {l : List Lf} {vs : List Value} (h : All2 (LfOK w Z γ) l vs) (hn : ∀ n, l.any (Lf.names n) = true → γ' n = γ n) : All2 (LfOK w' Z' γ') l vs :=
  All2.imp (fun c hc _ h => LfOK.keep hs h fun n hx => hn n (List.any_eq_true.2 ⟨c, hc, hx⟩)) h
theorem SlotOK.keep (hs : Stay w w' Z Z') {ob ob' : List (Nat × Ob)} {x : Slot} {v : Value} (h : SlotOK w Z γ ob x v)
    (hn : ∀ n, x.names n = true → γ' n = γ n ∧ ∀ E t xs, look ob' n = some (.row E t xs) → ∃ E' ys, look ob n = some (.row E' t ys) ∧ ys.length = xs.length) : SlotOK w' Z' γ' ob' x v := by
  cases x with
  | lf c => exact LfOK.keep hs h fun n hx => (hn n hx).1
  | ag l => obtain ⟨cs, e, h⟩ := h; exact ⟨cs, e, LfsOK.keep hs h fun n hx => (hn n hx).1⟩
  | tp l =>
    obtain ⟨vs, e, h⟩ := h
    refine ⟨vs, e, All2.imp (fun y hy v h => ?_) h⟩
    have hk : ∀ n, y.2.any (Lf.names n) = true → γ' n = γ n := fun n hx => (hn n (List.any_eq_true.2 ⟨y, hy, hx⟩)).1
    split at h
    · rename_i hb
      rw [if_pos hb]
      obtain ⟨cs, e, h⟩ := h
      exact ⟨cs, e, LfsOK.keep hs h hk⟩
    · rename_i hb
      rw [if_neg hb]
      obtain ⟨c, e, h⟩ := h
      exact ⟨c, e, LfOK.keep hs h fun n hx => hk n (by rw [e]; simpa using hx)⟩
  | q l =>
    obtain ⟨ad, vs, e, hz, h, hc⟩ := h
    exact ⟨ad, vs, e, (hs _ hz).1, LfsOK.keep hs h fun n hx => (hn n (by simpa [Slot.names] using hx)).1, fun j u hu => ((hs _ hz).2 _ (by simp)).trans (hc j u hu)⟩
  | e r i off =>
    intro E t xs hx
    obtain ⟨h1, h2⟩ := hn r (beqt.2 rfl)
    obtain ⟨E', ys, hy, hl⟩ := h2 E t xs hx
    rw [h1, ← hl]
    exact h E' t ys hy
end
end Go.GV
