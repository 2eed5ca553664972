/-
Part of the words that the laws of this seat are proved with: no statement of its own, no conditions.
-/
import Derived.Test.YtidgapgbnlcjgaaGreatDoorX14
set_option linter.unusedVariables false
set_option linter.unusedSimpArgs false
namespace Go.GV.YtidgapgbnlcjgaaGreatDoor
open Go.Proofs
noncomputable section
set_option maxRecDepth 1000000
theorem iA.f_eq (a c d b):iA.f a c d b=(yB.f).bind fun e=>bif !e.1 then(some (false,()))else((bE.f a).bind fun g=>bif !g.1 then(iA.l1 c d b true a)else((uA.f c).bind fun h=>bif !h.1 then(iA.l1 c d b true a)else((aC.f a d).bind fun i=>bif !i.1 then(iA.l1 c d b true a)else(bif decide (b<0)then(iA.l1 c d b true a)else(iA.l1 c d b (decide (b>40000000)) a))))):=rS k7
theorem iA.l1_eq (c a b h d):iA.l1 c a b h d=bif h then((yB.f).bind fun i=>some (i.1,()))else((jB.f d c a).bind fun e=>(jB.f d c (w6 (a-b))).bind fun g=>bif !decide (e.2.1=0)then(iA.l2 a b e.1 g.1 true)else(iA.l2 a b e.1 g.1 (!decide (g.2.1=0)))):=pS 7 1
theorem iA.l2_eq (c d a b e):iA.l2 c d a b e=bif e then((yB.f).bind fun g=>some (g.1,()))else(bif decide ((b.length:Int)>(a.length:Int))then(some (false,()))else(iA.l3 c d a b 0)):=pS 7 2
theorem iA.l3_eq (d e c b a):iA.l3 d e c b a=bif decide (a<(b.length:Int))then(bif decide (0≤a)then(bif decide (a<(c.length:Int))then(bif decide (0≤a)then(bif decide (a<(b.length:Int))then(bif !decide (((c.getD a.toNat (0,0,())).1)=((b.getD a.toNat (0,0,())).1))then(iA.l4 d e c b a true)else(bif decide (0≤a)then(bif decide (a<(b.length:Int))then(bif decide (0≤a)then(bif decide (a<(c.length:Int))then(bif decide (((b.getD a.toNat (0,0,())).2.1)>((c.getD a.toNat (0,0,())).2.1))then(iA.l4 d e c b a true)else(bif decide (a<(w6 ((b.length:Int)-1)))then(bif decide (0≤a)then(bif decide (a<(c.length:Int))then(bif decide (0≤a)then(bif decide (a<(b.length:Int))then(iA.l4 d e c b a (!decide (((c.getD a.toNat (0,0,())).2.1)=((b.getD a.toNat (0,0,())).2.1))))else none)else none)else none)else none)else(iA.l4 d e c b a false)))else none)else none)else none)else none))else none)else none)else none)else none)else((yB.f).bind fun g=>bif g.1 then(bif decide ((c.length:Int)=(b.length:Int))then(some (true,()))else(bif decide (0≤(b.length:Int))then(bif decide ((b.length:Int)<(c.length:Int))then(some (decide (((c.getD ((b.length:Int)).toNat (0,0,())).1)≥(w6 (d-e))),()))else none)else none))else(some (false,()))):=pS 7 3
theorem iA.l4_eq (a b c d e f):iA.l4 a b c d e f=bif f then(some (false,()))else(iA.l3 a b c d (w6 (e+1))):=pS 7 4
end
end Go.GV.YtidgapgbnlcjgaaGreatDoor
