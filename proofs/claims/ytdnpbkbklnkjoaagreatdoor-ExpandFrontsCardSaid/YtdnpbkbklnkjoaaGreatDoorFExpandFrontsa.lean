/-
Part of the words that ExpandFronts is proved with: no statement of its own, no conditions.
-/
import Derived.Test.YtdnpbkbklnkjoaaGreatDoorZ21
set_option linter.unusedVariables false
set_option linter.unusedSimpArgs false
namespace Go.GV.YtdnpbkbklnkjoaaGreatDoor
open Go.Proofs
theorem fronts_l3 (r : Rl) (hr : shortR r) (s e k : Int) (hk : 1 ≤ k ∧ k ≤ 4096) : voklaw8_ExpandFronts.l3 s e k r = some (true, ()) := by
 have hcp := copy_rule r hr
 obtain ⟨f, iv, ct, un, wkst, en, mo, we, yd, md, dy, ho, mi, se, po, ⟨⟩⟩ := r
 rw [voklaw8_ExpandFronts.l3_eq, hcp, first_true]
 simp only [Option.bind_some, cond_true]
 have hrq : shortR (f, iv, k, 0, wkst, false, mo, we, yd, md, dy, ho, mi, se, po, ()) := hr
 have hrp : shortR (f, iv, 0, 0, wkst, false, mo, we, yd, md, dy, ho, mi, se, po, ()) := hr
 obtain ⟨X, cx, x1, x2, x3, x4⟩ := list_any _ hrq s e 4096 (by omega) (by omega)
 obtain ⟨Y, cy, y1, y2, y3, _⟩ := list_any _ hrp s e 4096 (by omega) (by omega)
 rw [x1, y1]
 simp only [Option.bind_some]
 by_cases c : cy = 0
 ·obtain ⟨hm, hok, hY, hlen⟩ := y3 c
  have hmq : rule_May.f (f, iv, k, 0, wkst, false, mo, we, yd, md, dy, ho, mi, se, po, ()) = some (true, ()) := may_ct hr (by omega) hm
  have hYM : Y = memR (f, iv, 0, 0, wkst, false, mo, we, yd, md, dy, ho, mi, se, po, ()) s e := hY
  have hLQ : LS (f, iv, k, 0, wkst, false, mo, we, yd, md, dy, ho, mi, se, po, ()) s e = Y.take k.toNat := by
   rw [hYM]
   unfold LS
   rw [if_pos (show k > 0 by omega)]
   rfl
  have hcx := x4 hmq hok (by rw [hLQ, List.length_take]; omega)
  obtain ⟨_, _, hX, _⟩ := x3 hcx
  have e1 : (mm false k (Y.length : Int)).toNat = min k.toNat Y.length := by rw [mm_min]; omega
  have e2 : Y.take (min k.toNat Y.length) = X := by
   rw [hX, hLQ]
   by_cases c2 : k.toNat ≤ Y.length
   ·rw [Nat.min_eq_left c2]
   ·rw [Nat.min_eq_right (by omega), List.take_of_length_le (Nat.le_refl _), List.take_of_length_le (by omega)]
  have hlx : X.length ≤ 1000000 := by rw [hX, hLQ, List.length_take]; omega
  rw [dp c, Bool.not_true, cond_false, dp hcx, cond_true, e1, e2, ints_self X hlx, dp (show 0 ≤ mm false k (Y.length : Int) by rw [mm_min]; omega), dp (show mm false k (Y.length : Int) ≤ (Y.length : Int) by rw [mm_min]; omega)]
  rfl
 ·rw [dn c, Bool.not_false, cond_true]
theorem ExpandFronts_pure (r : Rl) (s e l k : Int) : voklaw8_ExpandFronts.f r s e l k = some (true, ()) := by
 have l1t : voklaw8_ExpandFronts.l1 s e l k true r = some (true, ()) := by rw [voklaw8_ExpandFronts.l1_eq, cond_true, first_true]; rfl
 obtain ⟨b, hb, hsh⟩ := light_some r s e
 rw [voklaw8_ExpandFronts.f_eq, first_true, hb]
 simp only [Option.bind_some, Bool.not_true, cond_false]
 cases b with
 | false => rw [Bool.not_false, cond_true, l1t]
 | true =>
  rw [Bool.not_true, cond_false]
  have hr := hsh rfl
  by_cases c1 : l < 0
  ·rw [dp c1, cond_true, l1t]
  by_cases c2 : l > IntKind.i64.wrap (e - s)
  ·rw [dn c1, cond_false, dp c2, cond_true, l1t]
  by_cases c3 : k < 1
  ·rw [dn c1, cond_false, dn c2, cond_false, dp c3, cond_true, l1t]
  by_cases c4 : k > 4096
  ·rw [dn c1, cond_false, dn c2, cond_false, dn c3, cond_false, dp c4, l1t]
  rw [dn c1, cond_false, dn c2, cond_false, dn c3, cond_false, dn c4, voklaw8_ExpandFronts.l1_eq, cond_false]
  obtain ⟨L, cd, h1, h2, h3, _⟩ := list_any r hr s e 4096 (by omega) (by omega)
  obtain ⟨M, cm, m1, m2, m3, m4⟩ := list_any r hr s (IntKind.i64.wrap (e - l)) 4096 (by omega) (by omega)
  rw [h1, m1]
  simp only [Option.bind_some]
  by_cases c : cd = 0
  ·obtain ⟨hm, ho, hL, hlen⟩ := h3 c
   have ho' := ho
   obtain ⟨g1, g2, g3⟩ := ho'
   unfold inT at g1 g2
   have w1 : IntKind.i64.wrap (e - s) = e - s := wr (by omega) (by omega)
   rw [w1] at c2
   have w2 : IntKind.i64.wrap (e - l) = e - l := wr (by omega) (by omega)
   rw [w2] at m3 m4 ⊢
   have hok : okE s (e - l) := ⟨g1, by unfold inT; omega, fun _ => by omega⟩
   obtain ⟨R, hsp, hR⟩ := LS_front (r := r) (s := s) (e := e) (e' := e - l) (by omega) (by omega)
   have hlM : ((LS r s (e - l)).length : Int) ≤ 4096 := by
    rw [hL, hsp, List.length_append] at hlen
    omega
   have hcm := m4 hm hok hlM
   obtain ⟨_, _, hM, _⟩ := m3 hcm
   have hLM : L = M ++ R := by rw [hL, hsp, hM]
   have hl2 : voklaw8_ExpandFronts.l2 s e k false r = some (true, ()) := by
    rw [voklaw8_ExpandFronts.l2_eq, cond_false]
    exact fronts_l3 r hr s e k (by omega)
   have hlL : L.length = M.length + R.length := by rw [hLM, List.length_append]
   have htk : L.take (M.length : Int).toNat = M := by rw [Int.toNat_natCast, hLM, List.take_left' rfl]
   rw [dp c, Bool.not_true, cond_false, dp hcm, Bool.not_true, cond_false, dn (show ¬ (M.length : Int) > (L.length : Int) by omega), cond_false, dp (show 0 ≤ (M.length : Int) by omega), cond_true, dp (show (M.length : Int) ≤ (L.length : Int) by omega), cond_true, htk, ints_self M (by omega)]
   simp only [Option.bind_some]
   rw [Bool.not_true, cond_false]
   by_cases cl : (M.length : Int) < (L.length : Int)
   ·have hlt : M.length < L.length := by omega
    have hx : ¬ L.getD M.length 0 < e - l := by
     have : L.getD M.length 0 ∈ R := by
      rw [hLM]
      have hRl : 0 < R.length := by omega
      rw [List.getD_eq_getElem?_getD, List.getElem?_append_right (Nat.le_refl _), Nat.sub_self, List.getElem?_eq_getElem hRl]
      exact List.getElem_mem hRl
     have := hR _ this
     omega
    rw [dp cl, cond_true, cond_true, cond_true, Int.toNat_natCast, dn hx]
    exact hl2
   ·rw [dn cl, cond_false]
    exact hl2
  ·rw [dn c, Bool.not_false, cond_true, first_true]
   rfl
end Go.GV.YtdnpbkbklnkjoaaGreatDoor
