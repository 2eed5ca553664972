/-
Part of the words that ExpandMembers is proved with: no statement of its own, no conditions.
-/
import Derived.Test.YtdnpbkbklnkjoaaGreatDoorZ21
set_option linter.unusedVariables false
set_option linter.unusedSimpArgs false
namespace Go.GV.YtdnpbkbklnkjoaaGreatDoor
open Go.Proofs
theorem members_loop (r : Rl) (s e t : Int) (L : List Int) (hR : Rise L) (hl : L.length ≤ 4096) (hb : ∀ x, x ∈ L → s ≤ x ∧ x < e) (hh : ∀ x, x ∈ L → member_Has.f r s x = some (true, ())) (hend : voklaw8_ExpandMembers.l1 s e t L (L.length : Int) r = some (true, ())) :
  ∀ (n i : Nat), L.length - i = n → i ≤ L.length → voklaw8_ExpandMembers.l1 s e t L (i : Int) r = some (true, ()) := by
 intro n
 induction n with
 | zero =>
  intro i hn hi
  have e1 : i = L.length := by omega
  rw [e1]
  exact hend
 | succ n ih =>
  intro i hn hi
  have hlt : i < L.length := by omega
  have ih' := ih (i + 1) (by omega) (by omega)
  rw [Int.natCast_add, Int.natCast_one] at ih'
  have hm := get_mem hlt
  have h1 := hb _ hm
  have h2 := hh _ hm
  rw [voklaw8_ExpandMembers.l1_eq, Int.toNat_natCast]
  by_cases c : i = 0
  ·subst c
   simp (disch := omega) only [ss, cond_true, cond_false, Option.bind_some, h2, voklaw8_ExpandMembers.l2_eq]
   exact ih'
  ·have hw : IntKind.i64.wrap ((i : Int) - 1) = ((i - 1 : Nat) : Int) := by rw [wr (by omega) (by omega)]; omega
   have hr := rise_get hR (show i - 1 < i by omega) hlt
   rw [hw, Int.toNat_natCast]
   by_cases c30 : (i : Int) < 30
   ·simp (disch := omega) only [ss, cond_true, cond_false, Option.bind_some, h2, voklaw8_ExpandMembers.l2_eq]
    exact ih'
   ·simp (disch := omega) only [ss, cond_true, cond_false, Option.bind_some, voklaw8_ExpandMembers.l2_eq]
    exact ih'
theorem members_l4 (r : Rl) (L : List Int) (i b u : Bool) (hc : r.2.2.1 = 0 ∨ (L.length : Int) ≤ r.2.2.1) (h : i = b ∨ (b = true ∧ i = false ∧ u = true)) : voklaw8_ExpandMembers.l4 L i b u r = some (true, ()) := by
 rw [voklaw8_ExpandMembers.l4_eq, first_true]
 simp only [Option.bind_some, cond_true]
 have hfin : (bif decide (r.2.2.1 = 0) then some (true, ()) else some (decide ((L.length : Int) ≤ r.2.2.1), ())) = some (true, ()) := by
  by_cases c : r.2.2.1 = 0
  ·rw [dp c, cond_true]
  ·rw [dn c, cond_false, dp (hc.resolve_left c)]
 rcases h with rfl | ⟨rfl, rfl, rfl⟩
 ·rw [beq_self_eq_true, cond_true, hfin]
 ·exact hfin
theorem ExpandMembers_pure (r : Rl) (s e t : Int) : voklaw8_ExpandMembers.f r s e t = some (true, ()) := by
 obtain ⟨b, hb, hsh⟩ := light_some r s e
 rw [voklaw8_ExpandMembers.f_eq, first_true, hb]
 simp only [Option.bind_some, Bool.not_true, cond_false]
 cases b with
 | false => rfl
 | true =>
  rw [Bool.not_true, cond_false]
  have hr := hsh rfl
  obtain ⟨L, cd, h1, h2, h3, _⟩ := list_any r hr s e 4096 (by omega) (by omega)
  rw [h1]
  simp only [Option.bind_some]
  by_cases c : cd = 0
  ·obtain ⟨hm, ho, hL, hlen⟩ := h3 c
   rw [dp c, Bool.not_true, cond_false]
   have hR : Rise L := by rw [hL]; exact rise_LS r s e
   have hct := (may_num hr hm).1
   have hend : voklaw8_ExpandMembers.l1 s e t L (L.length : Int) r = some (true, ()) := by
    have hl3 : ∀ B : Bool, (B = true ↔ t ∈ memR r s e) → voklaw8_ExpandMembers.l3 t L (decide (t ∈ L)) B r = some (true, ()) := by
     intro B hB
     have hsub : t ∈ L → B = true := fun q => by
      rw [hL] at q
      have := LS_sub q
      exact hB.2 (mem_memR.2 ⟨this.1, this.2.2⟩)
     have hsame : ¬ (r.2.2.1 > 0 ∧ (L.length : Int) = r.2.2.1) → decide (t ∈ L) = B := by
      intro q
      have : t ∈ L ↔ t ∈ memR r s e := by
       rw [hL]
       unfold LS
       by_cases cc : r.2.2.1 > 0
       ·rw [if_pos cc]
        have hlen2 : ¬ ((LS r s e).length : Int) = r.2.2.1 := fun z => q ⟨cc, by rw [hL]; exact z⟩
        unfold LS at hlen2
        rw [if_pos cc, List.length_take] at hlen2
        rw [List.take_of_length_le (by omega)]
       ·rw [if_neg cc]
      cases B with
      | true => exact dp (this.2 (hB.1 rfl))
      | false => exact dn fun z => by have := hB.2 (this.1 z); cases this
     rw [voklaw8_ExpandMembers.l3_eq]
     by_cases c1 : r.2.2.1 > 0
     ·have hcl : r.2.2.1 = 0 ∨ (L.length : Int) ≤ r.2.2.1 := .inr (by rw [hL]; exact LS_len c1)
      rw [dp c1, cond_true]
      by_cases c2 : (L.length : Int) = r.2.2.1
      ·rw [dp c2, cond_true, dn (show ¬ (L.length : Int) = 0 by omega), cond_false]
       have hw : IntKind.i64.wrap ((L.length : Int) - 1) = (L.length : Int) - 1 := wr (by omega) (by omega)
       rw [hw, dp (show 0 ≤ (L.length : Int) - 1 by omega), cond_true, dp (show (L.length : Int) - 1 < (L.length : Int) by omega), cond_true]
       refine members_l4 r L _ _ _ hcl ?_
       by_cases ct : t ∈ L
       ·rw [dp ct, hsub ct]
        exact .inl rfl
       ·rw [dn ct]
        cases B with
        | false => exact .inl rfl
        | true =>
         refine .inr ⟨rfl, rfl, dp ?_⟩
         have hmem := hB.1 rfl
         have e1 : memR r s e = L ++ (memR r s e).drop r.2.2.1.toNat := by
          rw [hL]
          unfold LS
          rw [if_pos c1, List.take_append_drop]
         have hrr := rise_memR r s e
         rw [e1] at hmem hrr
         rcases List.mem_append.1 hmem with q | q
         ·exact absurd q ct
         ·exact (rise_app.1 hrr).2.2 _ (get_mem (show ((L.length : Int) - 1).toNat < L.length by omega)) _ q
      ·rw [dn c2, cond_false]
       exact members_l4 r L _ _ _ hcl (.inl (hsame fun q => c2 q.2))
     ·rw [dn c1, cond_false]
      exact members_l4 r L _ _ _ (.inl (by omega)) (.inl (hsame fun q => c1 q.1))
    rw [voklaw8_ExpandMembers.l1_eq, dn (show ¬ (L.length : Int) < (L.length : Int) by omega), cond_false, has_spec L t (by omega)]
    simp only [Option.bind_some]
    by_cases ct : t < e
    ·rw [dp ct, cond_true, has_R hr hm ho.1]
     simp only [Option.bind_some]
     refine hl3 _ ?_
     rw [ind_iff, mem_memR]
     exact ⟨fun q => ⟨q, ct⟩, fun q => q.1⟩
    ·rw [dn ct, cond_false]
     refine hl3 false ⟨fun q => (by cases q), fun q => ?_⟩
     exact absurd (mem_memR.1 q).2 ct
   have := members_loop r s e t L hR (by omega) (fun x hx => by rw [hL] at hx; exact (LS_sub hx).2) (fun x hx => by
    rw [hL] at hx
    rw [has_R hr hm ho.1, ind_t (LS_sub hx).1]) hend L.length 0 (by omega) (Nat.zero_le _)
   rw [Int.natCast_zero] at this
   exact this
  ·rw [dn c, Bool.not_false, cond_true, h2 c]
   rfl
end Go.GV.YtdnpbkbklnkjoaaGreatDoor
