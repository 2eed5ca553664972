/-
Part of the words that MeetShifts is proved with: no statement of its own, no conditions.
-/
import Derived.Test.YtegmfagkklekaaaGreatDoorFMeetShiftso
set_option linter.unusedVariables false
set_option linter.unusedSimpArgs false
namespace Go.GV.YtegmfagkklekaaaGreatDoor
open Go.Proofs
noncomputable section
set_option maxRecDepth 1000000
theorem gF.f_eq (a):gF.f a=bif decide ((a.2.1.length:Int)≤400)then(some (decide ((a.2.2.1.length:Int)≤400),()))else(some (false,())):=rS k73
theorem sA.f_eq (a):sA.f a=sA.l1 a 0:=rS k26
theorem sA.l1_eq (b a):sA.l1 b a=bif decide (a<(b.length:Int))then(sA.l2 b a (decide (a<30)))else(sA.l2 b a false):=pS 26 1
theorem sA.l2_eq (a b c):sA.l2 a b c=bif c then(bif decide (0≤b)then(bif decide (b<(a.length:Int))then((gF.f (a.getD b.toNat (0,[],[],0,()))).bind fun d=>bif !d.1 then(some (false,()))else(sA.l1 a (w6 (b+1))))else none)else none)else(sA.l3 a):=pS 26 2
theorem sA.l3_eq (a):sA.l3 a=some (decide ((a.length:Int)≤30),()):=pS 26 3
theorem kA.f_eq (d a b c e):kA.f d a b c e=(iD.f).bind fun h=>bif !h.1 then(some (false,()))else((sA.f d).bind fun i=>bif !i.1 then((iD.f).bind fun j=>some (j.1,()))else((fB.f (a,b,c,false,(0,0,0,0,0,false,[],[],[],[],[],[],[],[],[],()),[],[],()) d e).bind fun g=>bif !decide (g.2.1=0)then(kA.l1 d a b c e g.1 true a b c false 0 0 0 0 0 false)else(bif decide (a<0)then(kA.l1 d a b c e g.1 true a b c false 0 0 0 0 0 false)else(kA.l1 d a b c e g.1 (decide (a≥(d.length:Int))) a b c false 0 0 0 0 0 false)))):=rS k7
theorem kA.l1_eq (c b i d e h j k u l m n o p q r s):kA.l1 c b i d e h j k u l m n o p q r s=bif j then((iD.f).bind fun v=>bif v.1 then(some (decide ((h.length:Int)=0),()))else(some (false,())))else(bif decide (0≤b)then(bif decide (b<(c.length:Int))then((oC.f (c.getD b.toNat (0,[],[],0,())) i).bind fun a=>bif decide (a.1≥e)then((iD.f).bind fun w=>bif w.1 then(some (decide ((h.length:Int)=0),()))else(some (false,())))else((mB.f h [(a.1,w6 (a.1+d),())]).bind fun x=>bif !x.1 then(some (false,()))else((fB.f (k,w6 (i+86400),l,m,(n,o,p,q,r,s,[],[],[],[],[],[],[],[],[],()),[],[],()) c e).bind fun g=>bif decide (0≤b)then(bif decide (b<(c.length:Int))then((dD.f (c.getD b.toNat (0,[],[],0,())) (w6 (a.1-200000))).bind fun t=>bif !decide (g.2.1=0)then(kA.l2 d a.1 g.1 true)else(bif t.2.1 then(bif decide (t.1.1≤(w6 (a.1+400000)))then(kA.l2 d a.1 g.1 true)else(kA.l2 d a.1 g.1 (decide ((w6 (a.1+86400))≥e))))else(kA.l2 d a.1 g.1 (decide ((w6 (a.1+86400))≥e)))))else none)else none)))else none)else none):=pS 7 1
theorem kA.l2_eq (a b c d):kA.l2 a b c d=bif d then((iD.f).bind fun e=>some (e.1,()))else(kA.l3 a b c):=pS 7 2
theorem kA.l3_eq (b a c):kA.l3 b a c=(iD.f).bind fun d=>bif d.1 then((mB.f c [(w6 (a+86400),w6 ((w6 (a+86400))+b),())]).bind fun e=>some (e.1,()))else(some (false,())):=pS 7 3
end
end Go.GV.YtegmfagkklekaaaGreatDoor
