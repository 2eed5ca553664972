/-
Part of the words that ExpandMost is proved with: no statement of its own, no conditions.
-/
import Derived.Test.YtdnpbkbklnkjoaaGreatDoorZ21
set_option linter.unusedVariables false
set_option linter.unusedSimpArgs false
namespace Go.GV.YtdnpbkbklnkjoaaGreatDoor
open Go.Proofs
theorem ExpandMost_pure (r : Rl) (s e : Int) : voklaw8_ExpandMost.f r s e = some (true, ()) := by
 have l1t : ∀ L, voklaw8_ExpandMost.l1 s e L true r = some (true, ()) := fun L => by rw [voklaw8_ExpandMost.l1_eq, cond_true, first_true]; rfl
 obtain ⟨b, hb, hsh⟩ := light_some r s e
 rw [voklaw8_ExpandMost.f_eq, first_true, hb]
 simp only [Option.bind_some, Bool.not_true, cond_false]
 cases b with
 | false => rfl
 | true =>
  rw [Bool.not_true, cond_false]
  have hr := hsh rfl
  obtain ⟨L, cd, h1, h2, h3, _⟩ := list_any r hr s e 4096 (by omega) (by omega)
  rw [h1]
  simp only [Option.bind_some]
  by_cases c : cd = 0
  ·obtain ⟨hm, ho, hL, hlen⟩ := h3 c
   rw [dp c, Bool.not_true, cond_false]
   by_cases c2 : (L.length : Int) < 2
   ·rw [dp c2, l1t]
   ·rw [dn c2, voklaw8_ExpandMost.l1_eq, cond_false, first_true]
    have k1 := list_ok hr hm ho (L.length : Int) (by omega) (by omega)
    have k2 := list_ok hr hm ho ((L.length : Int) - 1) (by omega) (by omega)
    rw [← hL, if_neg (by omega)] at k1
    rw [← hL, if_pos (by omega)] at k2
    rw [wr (x := (L.length : Int) - 1) (by omega) (by omega), k2, expand_Count.f_eq, k1]
    simp only [Option.bind_some, cond_true, decide_true]
    rw [ints_self L (by omega)]
    simp only [Option.bind_some, cond_true]
    rfl
  ·rw [dn c, Bool.not_false, cond_true, l1t]
end Go.GV.YtdnpbkbklnkjoaaGreatDoor
