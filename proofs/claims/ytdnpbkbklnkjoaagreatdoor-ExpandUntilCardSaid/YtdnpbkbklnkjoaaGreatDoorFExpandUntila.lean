/-
Part of the words that ExpandUntil is proved with: no statement of its own, no conditions.
-/
import Derived.Test.YtdnpbkbklnkjoaaGreatDoorZ21
set_option linter.unusedVariables false
set_option linter.unusedSimpArgs false
namespace Go.GV.YtdnpbkbklnkjoaaGreatDoor
open Go.Proofs
theorem until_loop (u : Int) (B C : List Int) (hB : ∀ x, x ∈ B → x ≤ u) (hC : ∀ x, x ∈ C → ¬ x ≤ u) (hl : (B ++ C).length ≤ 4096) : ∀ (n i : Nat), B.length - i = n → i ≤ B.length → voklaw8_ExpandUntil.l2 u (B ++ C) B 0 (i : Int) = some (true, ()) := by
 intro n
 induction n with
 | zero =>
  intro i hn hi
  have e : i = B.length := by omega
  subst e
  have hl4 : voklaw8_ExpandUntil.l4 (B ++ C) B 0 (B.length : Int) = some (true, ()) := by
   rw [List.length_append] at hl
   have hin := ints_self B (by omega)
   rw [voklaw8_ExpandUntil.l4_eq, first_true]
   simp only [Option.bind_some]
   rw [Int.toNat_natCast, List.take_left' rfl, dp (show (0 : Int) ≤ (B.length : Int) by omega), dp (show (B.length : Int) ≤ ((B ++ C).length : Int) by rw [List.length_append]; omega), hin]
   rfl
  rw [voklaw8_ExpandUntil.l2_eq]
  cases C with
  | nil =>
   rw [List.append_nil] at hl4 ⊢
   rw [dn (show ¬ (B.length : Int) < (B.length : Int) by omega), cond_false, voklaw8_ExpandUntil.l3_eq, cond_false]
   exact hl4
  | cons x C =>
   have hx := hC x (List.mem_cons_self ..)
   have e1 : (B ++ x :: C).getD (B.length : Int).toNat 0 = x := by
    rw [Int.toNat_natCast]
    simp [List.getD_eq_getElem?_getD]
   have hlt : (B.length : Int) < ((B ++ x :: C).length : Int) := by rw [List.length_append, List.length_cons]; omega
   rw [dp hlt, dp (show (0 : Int) ≤ (B.length : Int) by omega), cond_true, cond_true, cond_true, e1, dn hx, voklaw8_ExpandUntil.l3_eq, cond_false]
   exact hl4
 | succ n ih =>
  intro i hn hi
  have hlt : i < B.length := by omega
  have ih' := ih (i + 1) (by omega) (by omega)
  rw [Int.natCast_add, Int.natCast_one] at ih'
  have e1 : (B ++ C).getD (i : Int).toNat 0 = B.getD i 0 := by rw [Int.toNat_natCast, getD_app_left _ _ _ _ hlt]
  have hx := hB _ (get_mem hlt)
  have hl2 : (i : Int) < ((B ++ C).length : Int) := by rw [List.length_append]; omega
  rw [List.length_append] at hl
  have hw : IntKind.i64.wrap ((i : Int) + 1) = (i : Int) + 1 := wr (by omega) (by omega)
  rw [voklaw8_ExpandUntil.l2_eq, dp hl2, dp (show (0 : Int) ≤ (i : Int) by omega), cond_true, cond_true, cond_true, e1, dp hx, voklaw8_ExpandUntil.l3_eq, cond_true, hw]
  exact ih'
theorem ExpandUntil_pure (r : Rl) (s e u : Int) : voklaw8_ExpandUntil.f r s e u = some (true, ()) := by
 have l1t : ∀ L q, voklaw8_ExpandUntil.l1 s e u L true q = some (true, ()) := fun L q => by rw [voklaw8_ExpandUntil.l1_eq, cond_true, first_true]; rfl
 obtain ⟨b, hb, hsh⟩ := light_some r s e
 rw [voklaw8_ExpandUntil.f_eq, first_true, hb]
 simp only [Option.bind_some, Bool.not_true, cond_false]
 cases b with
 | false => rfl
 | true =>
  rw [Bool.not_true, cond_false]
  have hr := hsh rfl
  have hcp := copy_rule r hr
  obtain ⟨f, iv, ct, un, wkst, en, mo, we, yd, md, dy, ho, mi, se, po, ⟨⟩⟩ := r
  obtain ⟨a, ha⟩ : ∃ a : Rl, a = (f, iv, 0, 0, wkst, false, mo, we, yd, md, dy, ho, mi, se, po, ()) := ⟨_, rfl⟩
  obtain ⟨q, hq⟩ : ∃ q : Rl, q = (f, iv, 0, u, wkst, true, mo, we, yd, md, dy, ho, mi, se, po, ()) := ⟨_, rfl⟩
  have hra : shortR a := by rw [ha]; exact hr
  have hrq : shortR q := by rw [hq]; exact hr
  have hcp2 := copy_rule a hra
  rw [ha] at hcp2
  rw [hcp]
  simp only [Option.bind_some]
  rw [hcp2]
  simp only [Option.bind_some]
  rw [← ha, ← hq]
  obtain ⟨L, cd, h1, h2, h3, _⟩ := list_any a hra s e 4096 (by omega) (by omega)
  rw [h1]
  simp only [Option.bind_some]
  by_cases c : cd = 0
  ·obtain ⟨hm, ho, hL, hlen⟩ := h3 c
   rw [dp c, Bool.not_true, cond_false]
   obtain ⟨bq, hbq⟩ := may_some q hrq
   rw [hbq]
   simp only [Option.bind_some]
   cases bq with
   | false => rw [Bool.not_false, l1t]
   | true =>
    have hLA : L = memR a s e := by rw [hL, ha]; rfl
    have hLQ : LS q s e = memR q s e := by rw [hq]; rfl
    have hbel : ∀ x, belR q s x ↔ belR a s x ∧ x ≤ u := fun x => by
     rw [ha, hq]
     constructor
     ·rintro ⟨z1, z2, z3, z4⟩
      exact ⟨⟨z1, z2, (fun w => by cases w), z4⟩, z3 rfl⟩
     ·rintro ⟨⟨z1, z2, _, z4⟩, z3⟩
      exact ⟨z1, z2, fun _ => z3, z4⟩
    have hsplit : L = memR q s e ++ L.filter (fun x => decide (u < x)) := by
     have hRL : Rise L := by rw [hLA]; exact rise_memR _ _ _
     refine rise_ext hRL (rise_app.2 ⟨rise_memR _ _ _, List.Pairwise.sublist List.filter_sublist hRL, fun x hx y hy => ?_⟩) fun x => ?_
     ·have z1 := ((hbel x).1 (mem_memR.1 hx).1).2
      have z2 := of_decide_eq_true (List.mem_filter.1 hy).2
      omega
     ·rw [List.mem_append, List.mem_filter, decide_eq_true_eq, hLA, mem_memR, mem_memR, hbel]
      constructor
      ·rintro ⟨z1, z2⟩
       by_cases w : x ≤ u
       ·exact .inl ⟨⟨z1, w⟩, z2⟩
       ·exact .inr ⟨⟨z1, z2⟩, by omega⟩
      ·rintro (⟨⟨z1, _⟩, z2⟩ | ⟨z, _⟩)
       ·exact ⟨z1, z2⟩
       ·exact z
    have hC : ∀ x, x ∈ L.filter (fun x => decide (u < x)) → ¬ x ≤ u := fun x hx => by
     have := of_decide_eq_true (List.mem_filter.1 hx).2
     omega
    have hB : ∀ x, x ∈ memR q s e → x ≤ u := fun x hx => ((hbel x).1 (mem_memR.1 hx).1).2
    generalize L.filter (fun x => decide (u < x)) = C at hsplit hC
    have hk := list_ok hrq hbq ho 4096 (by omega) (by omega)
    rw [hLQ, if_neg (by rw [hsplit, List.length_append] at hlen; omega)] at hk
    rw [Bool.not_true, voklaw8_ExpandUntil.l1_eq, cond_false, hk]
    simp only [Option.bind_some]
    rw [hsplit]
    rw [hsplit] at hlen
    have := until_loop u (memR q s e) C hB hC (by omega) (memR q s e).length 0 (by omega) (Nat.zero_le _)
    rw [Int.natCast_zero] at this
    exact this
  ·rw [dn c, Bool.not_false, cond_true, l1t]
end Go.GV.YtdnpbkbklnkjoaaGreatDoor
