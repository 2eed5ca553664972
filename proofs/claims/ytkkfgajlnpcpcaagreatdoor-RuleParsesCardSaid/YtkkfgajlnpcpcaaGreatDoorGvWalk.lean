/-
GV: the code, item by item, and its places that have names. (This session's own text.)
-/
import Derived.Test.YtkkfgajlnpcpcaaGreatDoorGvDraw3
set_option linter.unusedVariables false
set_option linter.unusedSimpArgs false
namespace Go.GV
/-- How what is still to do here stands to the machine's. -/
inductive ItOK : List It → List Item → Prop
  | nil : ItOK [] []
  | code {l k x a} : ItOK l k → ItOK (.c x a :: l) (.code x :: k)
  | loop {l k y a} : ItOK l k → ItOK (.c (.loop y) a :: l) (.inLoop y :: k)
  | endB {l k id} : ItOK l k → ItOK (.endB id :: l) (.inBlock id :: k)
/-- All places that have names, in what is still to do, are in the table. -/
def Pos (T : List (Nat × List It)) : List It → Prop
  | [] => True
  | .c x a :: l => (∀ p ∈ places x a l, p ∈ T) ∧ a.wf = true ∧ Pos T l
  | .endB _ :: l => Pos T l
theorem exit_ok {id : Nat} : ∀ {l l' : List It} {k : List Item}, ItOK l k → exitT id l = some l' → ∃ k', exitTo id k = some k' ∧ ItOK l' k'
  | _, _, _, .nil, h => by cases h
  | _, _, _, .code h0, h => by
    simp only [exitT] at h
    obtain ⟨k', h1, h2⟩ := exit_ok h0 h
    exact ⟨k', by simpa [exitTo] using h1, h2⟩
  | _, _, _, .loop h0, h => by
    simp only [exitT] at h
    obtain ⟨k', h1, h2⟩ := exit_ok h0 h
    exact ⟨k', by simpa [exitTo] using h1, h2⟩
  | _, _, _, .endB (l := l) (k := k) (id := j) h0, h => by
    simp only [exitT] at h
    by_cases hj : Nat.beq j id = true
    · rw [if_pos hj] at h
      cases h
      exact ⟨k, by simp [exitTo, beqt.1 hj], h0⟩
    · rw [if_neg hj] at h
      obtain ⟨k', h1, h2⟩ := exit_ok h0 h
      have hne : ¬ j = id := fun e => hj (beqt.2 e)
      exact ⟨k', by simp [exitTo, hne, h1], h2⟩
theorem exit_pos {T : List (Nat × List It)} {id : Nat} : ∀ {l l' : List It}, Pos T l → exitT id l = some l' → Pos T l'
  | [], _, _, h => by cases h
  | .c x a :: l, _, hp, h => exit_pos (l := l) hp.2.2 (by simpa only [exitT] using h)
  | .endB j :: l, _, hp, h => by
    simp only [exitT] at h
    split at h
    · cases h; exact hp
    · exact exit_pos (l := l) hp h
section
variable {P : Program} {E : Env} {GB : Nat → Prop} {G : World → Prop} {w0 : World} {M Z0 : Nat → Prop} {γ0 : Nat → Value} {m : Nat} {b : Frame} {cs : List Frame}
/-- The call comes to its end, and then this holds. -/
def Ends (P : Program) (b : Frame) (cs : List Frame) (Post : Act → World → Prop) (k : List Item) (a : Act) (w : World) : Prop :=
  ∃ a' w' todo, Steps P (lone (b.at a k) cs w) (lone { b.at a' todo with mode := .returning } cs w') ∧ Post a' w'
theorem Ends.head {Post : Act → World → Prop} {k k' : List Item} {a : Act} {w : World} (h : Go.step P (lone (b.at a k) cs w) = .next (lone (b.at a k') cs w)) (h' : Ends P b cs Post k' a w) : Ends P b cs Post k a w := by
  obtain ⟨a', w', todo, h1, h2⟩ := h'
  exact ⟨a', w', todo, .head h h1, h2⟩
theorem Ends.steps {Post : Act → World → Prop} {k k' : List Item} {a a1 : Act} {w w1 : World} (h : Steps P (lone (b.at a k) cs w) (lone (b.at a1 k') cs w1)) (h' : Ends P b cs Post k' a1 w1) : Ends P b cs Post k a w := by
  obtain ⟨a', w', todo, h1, h2⟩ := h'
  exact ⟨a', w', todo, h.trans h1, h2⟩
theorem run_ok (henv : envOK P E = true) (hinl : E.inl = []) (hmix : P.follows .mixedOrders = true) (hst : Stable GB G) (hG : G w0) (hGB : ∀ b, GB b → b < w0.heap.size ∧ ¬ M b) (hm : m ≤ 1000) {R : Type} {ev : Ev E} (hev : EvOK P GB G E ev) {mm : Nat}
    {go : Nat → St → Option R} {fi : St → Option R} {r : R} {Post : Act → World → Prop} {T : List (Nat × List It)}
    (hfi : ∀ s a w, fi s = some r → Good w0 M Z0 γ0 m s a w → Post a w)
    (hgo : ∀ i s l, (i, l) ∈ T → go i s = some r → Pos T l → ∀ a w, Good w0 M Z0 γ0 m s a w → ∀ k, ItOK l k → Ends P b cs Post k a w)
    (hpl : ∀ i l, (i, l) ∈ T → Pos T l) (hat : ∀ s k s' a w, atPlace s mm k = some s' → Good w0 M Z0 γ0 m s a w → Good w0 M Z0 γ0 m s' a w) :
    ∀ (n : Nat) (l : List It) (k : List Item) (s : St) (a : Act) (w : World), run E ev mm n go fi l s = some r → ItOK l k → Pos T l → Good w0 M Z0 γ0 m s a w → Ends P b cs Post k a w
  | 0, l, k, s, a, w, h, _, _, _ => by cases l <;> cases h
  | n + 1, [], k, s, a, w, h, hk, hp, hg => by
    cases hk
    exact ⟨a, w, [], .one step_end, hfi s a w h hg⟩
  | n + 1, .endB id :: l, k, s, a, w, h, hk, hp, hg => by
    cases hk with
    | endB hk => exact .head step_inBlock (run_ok henv hinl hmix hst hG hGB hm hev hfi hgo hpl hat n l _ s a w h hk hp hg)
  | n + 1, .c x an :: l, k, s, a, w, h, hk, hp, hg => by
    have ih := run_ok henv hinl hmix hst hG hGB hm hev hfi hgo hpl hat n
    obtain ⟨hp1, hwf, hp2⟩ := hp
    cases an with
    | at_ i kp an =>
      simp only [run] at h
      split at h
      · rename_i s' hs'
        have hg' := hat s kp s' a w hs' hg
        cases x with
        | loop y =>
          have hmem : (i, .c y an :: .c (.loop y) (.at_ i kp an) :: l) ∈ T := hp1 _ (by simp only [places]; exact List.mem_cons_self)
          cases hk with
          | code hk => exact .head step_loop (hgo i s' _ hmem h (hpl _ _ hmem) a w hg' _ (.code (.loop hk)))
          | loop hk => exact .head step_inLoop (hgo i s' _ hmem h (hpl _ _ hmem) a w hg' _ (.code (.loop hk)))
        | _ =>
          cases hk with
          | code hk =>
            have hmem := hp1 (i, .c _ an :: l) (by simp only [places]; exact List.mem_cons_self)
            exact hgo i s' _ hmem h (hpl _ _ hmem) a w hg' _ (.code hk)
      · cases h
    | no =>
      simp only [run] at h
      cases x with
      | skip => cases hk with | code hk => exact .head step_skip (ih l _ s a w h hk hp2 hg)
      | seq x y =>
        cases hk with
        | code hk => exact .head step_seq (ih _ _ s a w h (.code (.code hk)) ⟨fun p hp => hp1 p (by simp only [places]; exact List.mem_append_left _ hp), rfl, fun p hp => hp1 p (by simp only [places]; exact List.mem_append_right _ hp), rfl, hp2⟩ hg)
      | cond c x y =>
        cases hk with
        | code hk =>
          have hx : Pos T (.c x (Ann.l .no) :: l) := ⟨fun p hp => hp1 p (by simp only [places]; exact List.mem_append_left _ hp), rfl, hp2⟩
          have hy : Pos T (.c y (Ann.r .no) :: l) := ⟨fun p hp => hp1 p (by simp only [places]; exact List.mem_append_right _ hp), rfl, hp2⟩
          dsimp only at h
          split at h
          · rename_i bv hc
            obtain ⟨⟨Z, γ, hi, hs, hγ⟩, hb, hd⟩ := id hg
            have hcv := opnd_bool hc hs
            cases c with
            | tmp t =>
              have hgs : Good w0 M Z0 γ0 m (s.set t (.lf (.v .bool bv))) a w := ⟨⟨Z, γ, hi, setd_same hs (by
                have h1 : a.tmps.getD t undef = .bool bv := hcv
                rw [h1]; exact rfl), hγ⟩, hb, hd⟩
              cases bv with
              | true => exact .head (step_cond (t := true) hcv) (ih _ _ _ a w h (.code hk) hx hgs)
              | false => exact .head (step_cond (t := false) hcv) (ih _ _ _ a w h (.code hk) hy hgs)
            | const v =>
              cases bv with
              | true => exact .head (step_cond (t := true) hcv) (ih _ _ _ a w h (.code hk) hx hg)
              | false => exact .head (step_cond (t := false) hcv) (ih _ _ _ a w h (.code hk) hy hg)
            | global g => simp [St.opnd] at hc
            | func f => simp [St.opnd] at hc
          · cases h
      | block id x =>
        cases hk with
        | code hk => exact .head step_block (ih _ _ s a w h (.code (.endB hk)) ⟨fun p hp => hp1 p (by simp only [places]; exact hp), rfl, hp2⟩ hg)
      | exit id =>
        cases hk with
        | code hk =>
          dsimp only at h
          split at h
          · rename_i l' hl'
            obtain ⟨k', h1, h2⟩ := exit_ok hk hl'
            exact .head (step_exit h1) (ih _ _ s a w h h2 (exit_pos hp2 hl') hg)
          · cases h
      | ret =>
        cases hk with
        | code hk => exact ⟨a, w, _, .one step_ret, hfi s a w h hg⟩
      | region id ops draw =>
        cases hk with
        | code hk =>
          dsimp only at h
          cases draw with
          | true =>
            rw [if_pos rfl] at h
            obtain ⟨e, a', w', ⟨rfl, s', hs', hg'⟩, harr⟩ := draw_ok (id := id) henv hmix hinl hst hG hGB hm hev h hg b _ cs
            exact .steps harr (ih _ _ s' a' w' hs' hk hp2 hg')
          | false =>
            rw [if_neg (by decide)] at h
            have hw := opsK_ok henv hinl hst hG hGB hm hev ops.toList 0 s a w (by simp) (by simp) h hg
            rw [Array.length_toList, ← List.range_eq_range'] at hw
            obtain ⟨e, a', w', ⟨rfl, s', hs', hg'⟩, harr⟩ := wp_region (id := id) hw b _ cs
            exact .steps harr (ih _ _ s' a' w' hs' hk hp2 hg')
      | _ => cases h
    | two a1 a2 =>
      simp only [Ann.wf, Bool.and_eq_true] at hwf
      simp only [run] at h
      cases x with
      | skip => cases hk with | code hk => exact .head step_skip (ih l _ s a w h hk hp2 hg)
      | seq x y =>
        cases hk with
        | code hk => exact .head step_seq (ih _ _ s a w h (.code (.code hk)) ⟨fun p hp => hp1 p (by simp only [places]; exact List.mem_append_left _ hp), hwf.1, fun p hp => hp1 p (by simp only [places]; exact List.mem_append_right _ hp), hwf.2, hp2⟩ hg)
      | cond c x y =>
        cases hk with
        | code hk =>
          have hx : Pos T (.c x (Ann.l (.two a1 a2)) :: l) := ⟨fun p hp => hp1 p (by simp only [places]; exact List.mem_append_left _ hp), hwf.1, hp2⟩
          have hy : Pos T (.c y (Ann.r (.two a1 a2)) :: l) := ⟨fun p hp => hp1 p (by simp only [places]; exact List.mem_append_right _ hp), hwf.2, hp2⟩
          dsimp only at h
          split at h
          · rename_i bv hc
            obtain ⟨⟨Z, γ, hi, hs, hγ⟩, hb, hd⟩ := id hg
            have hcv := opnd_bool hc hs
            cases c with
            | tmp t =>
              have hgs : Good w0 M Z0 γ0 m (s.set t (.lf (.v .bool bv))) a w := ⟨⟨Z, γ, hi, setd_same hs (by
                have h1 : a.tmps.getD t undef = .bool bv := hcv
                rw [h1]; exact rfl), hγ⟩, hb, hd⟩
              cases bv with
              | true => exact .head (step_cond (t := true) hcv) (ih _ _ _ a w h (.code hk) hx hgs)
              | false => exact .head (step_cond (t := false) hcv) (ih _ _ _ a w h (.code hk) hy hgs)
            | const v =>
              cases bv with
              | true => exact .head (step_cond (t := true) hcv) (ih _ _ _ a w h (.code hk) hx hg)
              | false => exact .head (step_cond (t := false) hcv) (ih _ _ _ a w h (.code hk) hy hg)
            | global g => simp [St.opnd] at hc
            | func f => simp [St.opnd] at hc
          · cases h
      | block id x =>
        cases hk with
        | code hk => exact .head step_block (ih _ _ s a w h (.code (.endB hk)) ⟨fun p hp => hp1 p (by simp only [places]; exact hp), hwf.1, hp2⟩ hg)
      | exit id =>
        cases hk with
        | code hk =>
          dsimp only at h
          split at h
          · rename_i l' hl'
            obtain ⟨k', h1, h2⟩ := exit_ok hk hl'
            exact .head (step_exit h1) (ih _ _ s a w h h2 (exit_pos hp2 hl') hg)
          · cases h
      | ret =>
        cases hk with
        | code hk => exact ⟨a, w, _, .one step_ret, hfi s a w h hg⟩
      | region id ops draw =>
        cases hk with
        | code hk =>
          dsimp only at h
          cases draw with
          | true =>
            rw [if_pos rfl] at h
            obtain ⟨e, a', w', ⟨rfl, s', hs', hg'⟩, harr⟩ := draw_ok (id := id) henv hmix hinl hst hG hGB hm hev h hg b _ cs
            exact .steps harr (ih _ _ s' a' w' hs' hk hp2 hg')
          | false =>
            rw [if_neg (by decide)] at h
            have hw := opsK_ok henv hinl hst hG hGB hm hev ops.toList 0 s a w (by simp) (by simp) h hg
            rw [Array.length_toList, ← List.range_eq_range'] at hw
            obtain ⟨e, a', w', ⟨rfl, s', hs', hg'⟩, harr⟩ := wp_region (id := id) hw b _ cs
            exact .steps harr (ih _ _ s' a' w' hs' hk hp2 hg')
      | _ => cases h
theorem wf_l {a : Ann} (h : a.wf = true) : a.l.wf = true := by
  cases a with
  | no => rfl
  | two a b => simp only [Ann.wf, Bool.and_eq_true] at h; exact h.1
  | at_ i k a => exact h
theorem wf_r {a : Ann} (h : a.wf = true) : a.r.wf = true := by
  cases a with
  | no => rfl
  | two a b => simp only [Ann.wf, Bool.and_eq_true] at h; exact h.2
  | at_ i k a => rfl
def Ann.isAt : Ann → Bool
  | .at_ _ _ _ => true
  | _ => false
theorem places_seq {x y : Code} {a : Ann} {l : List It} (h : a.isAt = false) : places (.seq x y) a l = places x a.l (.c y a.r :: l) ++ places y a.r l := by cases a <;> first | rfl | cases h
theorem places_cond {c : Operand} {x y : Code} {a : Ann} {l : List It} (h : a.isAt = false) : places (.cond c x y) a l = places x a.l l ++ places y a.r l := by cases a <;> first | rfl | cases h
theorem places_block {id : Nat} {x : Code} {a : Ann} {l : List It} (h : a.isAt = false) : places (.block id x) a l = places x a.l (.endB id :: l) := by cases a <;> first | rfl | cases h
theorem wf_at {i : Nat} {k : List (Nat × Keep)} {a : Ann} (h : (Ann.at_ i k a).wf = true) : a.isAt = false ∧ a.wf = true := by
  simp only [Ann.wf, Bool.and_eq_true] at h
  refine ⟨?_, h.2⟩
  cases a with
  | at_ _ _ _ => cases h.1
  | _ => rfl
theorem places_pos {T : List (Nat × List It)} : ∀ (x : Code) (a : Ann) (l : List It), a.wf = true → (∀ p ∈ places x a l, p ∈ T) → Pos T l → ∀ i l', (i, l') ∈ places x a l → Pos T l' := by
  intro x
  induction x with
  | seq x y ihx ihy =>
    intro a l hwf hT hl i l' hm
    have body : ∀ b : Ann, b.wf = true → b.isAt = false → (∀ p ∈ places (.seq x y) b l, p ∈ T) → (i, l') ∈ places (.seq x y) b l → Pos T l' := by
      intro b hb hna hT hm
      rw [places_seq hna] at hT hm
      have hy : Pos T (.c y b.r :: l) := ⟨fun p hp => hT p (List.mem_append_right _ hp), wf_r hb, hl⟩
      rcases List.mem_append.1 hm with hm | hm
      · exact ihx b.l _ (wf_l hb) (fun p hp => hT p (List.mem_append_left _ hp)) hy i l' hm
      · exact ihy b.r l (wf_r hb) (fun p hp => hT p (List.mem_append_right _ hp)) hl i l' hm
    cases a with
    | at_ j k b =>
      obtain ⟨hna, hb⟩ := wf_at hwf
      have e : places (.seq x y) (.at_ j k b) l = (j, .c (.seq x y) b :: l) :: places (.seq x y) b l := by rw [places_seq hna]; rfl
      rw [e] at hT hm
      rcases List.mem_cons.1 hm with hm | hm
      · cases hm; exact ⟨fun p hp => hT p (List.mem_cons_of_mem _ hp), hb, hl⟩
      · exact body b hb hna (fun p hp => hT p (List.mem_cons_of_mem _ hp)) hm
    | no => exact body _ hwf rfl hT hm
    | two a1 a2 => exact body _ hwf rfl hT hm
  | cond c x y ihx ihy =>
    intro a l hwf hT hl i l' hm
    have body : ∀ b : Ann, b.wf = true → b.isAt = false → (∀ p ∈ places (.cond c x y) b l, p ∈ T) → (i, l') ∈ places (.cond c x y) b l → Pos T l' := by
      intro b hb hna hT hm
      rw [places_cond hna] at hT hm
      rcases List.mem_append.1 hm with hm | hm
      · exact ihx b.l _ (wf_l hb) (fun p hp => hT p (List.mem_append_left _ hp)) hl i l' hm
      · exact ihy b.r l (wf_r hb) (fun p hp => hT p (List.mem_append_right _ hp)) hl i l' hm
    cases a with
    | at_ j k b =>
      obtain ⟨hna, hb⟩ := wf_at hwf
      have e : places (.cond c x y) (.at_ j k b) l = (j, .c (.cond c x y) b :: l) :: places (.cond c x y) b l := by rw [places_cond hna]; rfl
      rw [e] at hT hm
      rcases List.mem_cons.1 hm with hm | hm
      · cases hm; exact ⟨fun p hp => hT p (List.mem_cons_of_mem _ hp), hb, hl⟩
      · exact body b hb hna (fun p hp => hT p (List.mem_cons_of_mem _ hp)) hm
    | no => exact body _ hwf rfl hT hm
    | two a1 a2 => exact body _ hwf rfl hT hm
  | block id x ihx =>
    intro a l hwf hT hl i l' hm
    have body : ∀ b : Ann, b.wf = true → b.isAt = false → (∀ p ∈ places (.block id x) b l, p ∈ T) → (i, l') ∈ places (.block id x) b l → Pos T l' := by
      intro b hb hna hT hm
      rw [places_block hna] at hT hm
      exact ihx b.l _ (wf_l hb) hT hl i l' hm
    cases a with
    | at_ j k b =>
      obtain ⟨hna, hb⟩ := wf_at hwf
      have e : places (.block id x) (.at_ j k b) l = (j, .c (.block id x) b :: l) :: places (.block id x) b l := by rw [places_block hna]; rfl
      rw [e] at hT hm
      rcases List.mem_cons.1 hm with hm | hm
      · cases hm; exact ⟨fun p hp => hT p (List.mem_cons_of_mem _ hp), hb, hl⟩
      · exact body b hb hna (fun p hp => hT p (List.mem_cons_of_mem _ hp)) hm
    | no => exact body _ hwf rfl hT hm
    | two a1 a2 => exact body _ hwf rfl hT hm
  | loop x ihx =>
    intro a l hwf hT hl i l' hm
    cases a with
    | at_ j k b =>
      obtain ⟨hna, hb⟩ := wf_at hwf
      have e : places (.loop x) (.at_ j k b) l = (j, .c x b :: .c (.loop x) (.at_ j k b) :: l) :: places x b (.c (.loop x) (.at_ j k b) :: l) := rfl
      have hp : Pos T (.c (.loop x) (.at_ j k b) :: l) := ⟨hT, hwf, hl⟩
      rw [e] at hT hm
      rcases List.mem_cons.1 hm with hm | hm
      · cases hm; exact ⟨fun p hp => hT p (List.mem_cons_of_mem _ hp), hb, hp⟩
      · exact ihx b _ hb (fun p hp => hT p (List.mem_cons_of_mem _ hp)) hp i l' hm
    | no => simp [places] at hm
    | two a1 a2 => simp [places] at hm
  | _ =>
    intro a l hwf hT hl i l' hm
    cases a with
    | at_ j k b =>
      obtain ⟨hna, hb⟩ := wf_at hwf
      simp only [places, List.mem_singleton, Prod.mk.injEq] at hm
      obtain ⟨_, rfl⟩ := hm
      refine ⟨fun p hp => ?_, hb, hl⟩
      cases b <;> first | (simp [places] at hp; done) | cases hna
    | no => simp [places] at hm
    | two a1 a2 => simp [places] at hm
end
end Go.GV
