/-
Part of the words that ExpandNext is proved with: no statement of its own, no conditions.
-/
import Derived.Test.YtdnpbkbklnkjoaaGreatDoorZ21
set_option linter.unusedVariables false
set_option linter.unusedSimpArgs false
namespace Go.GV.YtdnpbkbklnkjoaaGreatDoor
open Go.Proofs
theorem ExpandNext_pure (r : Rl) (s e i : Int) : voklaw8_ExpandNext.f r s e i = some (true, ()) := by
 have l1t : ∀ L, voklaw8_ExpandNext.l1 s e i L true r = some (true, ()) := fun L => by rw [voklaw8_ExpandNext.l1_eq, cond_true, first_true]; rfl
 obtain ⟨b, hb, hsh⟩ := light_some r s e
 rw [voklaw8_ExpandNext.f_eq, first_true, hb]
 simp only [Option.bind_some, Bool.not_true, cond_false]
 cases b with
 | false => rfl
 | true =>
  rw [Bool.not_true, cond_false]
  have hr := hsh rfl
  obtain ⟨L, cd, h1, h2, h3, _⟩ := list_any r hr s e 4096 (by omega) (by omega)
  rw [h1]
  simp only [Option.bind_some]
  by_cases c : cd = 0
  ·obtain ⟨hm, ho, hL, hlen⟩ := h3 c
   rw [dp c, Bool.not_true, cond_false]
   by_cases c1 : i < 0
   ·rw [dp c1, cond_true, l1t]
   by_cases c2 : i ≥ (L.length : Int)
   ·rw [dn c1, cond_false, dp c2, l1t]
   rw [dn c1, cond_false, dn c2, voklaw8_ExpandNext.l1_eq, cond_false, dp (show 0 ≤ i by omega), cond_true, dp (show i < (L.length : Int) by omega), cond_true]
   have hs := ho.1
   unfold inT at hs
   have hlt : i.toNat < L.length := by omega
   have hR : Rise L := by rw [hL]; exact rise_LS r s e
   have n1 := next_ok hr hm ho (L.getD i.toNat 0)
   have n2 := next_ok hr hm ho (s - 1)
   rw [← hL, find_after hR _ hlt] at n1
   rw [← hL, find_first (by omega) (fun x hx => by
    rw [hL] at hx
    have := (LS_sub hx).2.1
    omega)] at n2
   rw [wr (x := s - 1) (by omega) (by omega), wr (x := i + 1) (by omega) (by omega), n1, n2, first_true]
   simp only [Option.bind_some]
   by_cases c3 : i + 1 = (L.length : Int)
   ·rw [dp c3, cond_true, if_neg (by omega), dp (show 0 < (L.length : Int) by omega)]
    simp only [Option.bind_some, cond_true, Bool.not_false, decide_true]
    rfl
   ·rw [dn c3, cond_false, if_pos (by omega), dp (show 0 < (L.length : Int) by omega), dp (show 0 ≤ i + 1 by omega), dp (show i + 1 < (L.length : Int) by omega), show (i + 1).toNat = i.toNat + 1 by omega]
    simp only [Option.bind_some, cond_true, decide_true]
    rfl
  ·rw [dn c, Bool.not_false, cond_true, l1t]
end Go.GV.YtdnpbkbklnkjoaaGreatDoor
