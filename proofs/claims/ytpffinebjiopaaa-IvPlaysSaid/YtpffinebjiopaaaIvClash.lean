/-
Which span a clash tells: the first of the set that meets any. (This session's own text.)
-/
import Derived.Test.YtpffinebjiopaaaIvMore
set_option linter.unusedVariables false
set_option linter.unusedSimpArgs false
namespace Go.GV.Ytpffinebjiopaaa
open Go.Proofs
def hitN (n : List Sp) (but : Int) (t : Tg) : Bool := n.any fun x => hit x but t
theorem hit_iff (x : Sp) (but : Int) (t : Tg) : hit x but t = true ↔ t.2.1 ≠ but ∧ t.1.1 < x.2.1 ∧ x.1 < t.1.2.1 := by simp [hit]
theorem clash_first {l : List Tg} {n : List Sp} (hi : Inv l) (hn : nrm n) (but : Int) : clashP l n but = l.find? (hitN n but) := by
  cases h : clashP l n but with
  | none =>
    symm
    rw [List.find?_eq_none]
    intro t ht h2
    obtain ⟨x, hx, h3⟩ := List.any_eq_true.1 h2
    have h4 := (List.findSome?_eq_none_iff.1 h) x hx
    exact List.find?_eq_none.1 h4 t ht h3
  | some t =>
    symm
    obtain ⟨n1, x, n2, rfl, h2, h3⟩ := List.findSome?_eq_some_iff.1 h
    obtain ⟨h4, l1, l2, rfl, h5⟩ := List.find?_eq_some_iff_append.1 h2
    rw [List.find?_eq_some_iff_append]
    refine ⟨List.any_eq_true.2 ⟨x, by simp, h4⟩, l1, l2, rfl, fun s hs => ?_⟩
    have a1 := (List.pairwise_append.1 hi.pw).2.2 s hs t List.mem_cons_self
    have a2 := (hit_iff x but t).1 h4
    have key : hitN (n1 ++ x :: n2) but s = false := by
      unfold hitN
      rw [List.any_eq_false]
      intro y hy h6
      rcases List.mem_append.1 hy with hy | hy
      · exact List.find?_eq_none.1 (h3 y hy) s (List.mem_append_left _ hs) h6
      · rcases List.mem_cons.1 hy with rfl | hy
        · have := h5 s hs
          rw [h6] at this; cases this
        · have a3 := (List.pairwise_cons.1 (List.pairwise_append.1 hn.1).2.1).1 y hy
          have a4 := (hit_iff y but s).1 h6
          omega
    rw [key]
    rfl
end Go.GV.Ytpffinebjiopaaa
