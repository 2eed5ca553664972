/-
Part of the words that the laws of this seat are proved with: no statement of its own, no conditions.
-/
import Derived.Test.YtidgapgbnlcjgaaGreatDoorZ18
set_option linter.unusedVariables false
set_option linter.unusedSimpArgs false
namespace Go.GV.YtidgapgbnlcjgaaGreatDoor
open Go.Proofs
noncomputable section
set_option maxRecDepth 1000000
theorem eB.l2_eq (c d e a b) : eB.l2 c d e a b = bif e then ((oD.f).bind fun g => bif g.1 then ((uG.f a b).bind fun h => (uG.f b a).bind fun i => some ((h.1 == i.1), ())) else (some (false, ()))) else ((oD.f).bind fun j => bif j.1 then ((uG.f a b).bind fun k => (zJ.f c d).bind fun l => some ((k.1 == l.1), ())) else (some (false, ()))) := pS 11 2
end
end Go.GV.YtidgapgbnlcjgaaGreatDoor
