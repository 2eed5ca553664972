/-
Part of the words that MeetTexts is proved with: no statement of its own, no conditions.
-/
import Derived.Test.YtegmfagkklekaaaGreatDoorFMeetTextsq
set_option linter.unusedVariables false
set_option linter.unusedSimpArgs false
namespace Go.GV.YtegmfagkklekaaaGreatDoor
open Go.Proofs
noncomputable section
set_option maxRecDepth 1000000
theorem qC.l1_eq (b n a p q r s t u v w x y c d e g h i j k l m):qC.l1 b n a p q r s t u v w x y c d e g h i j k l m=bif decide (a<(b.length:Int))then(bif decide (0≤a)then(bif decide (a<(b.length:Int))then((aA.f (c,d,e,g,(h,i,j,k,l,m,[],[],[],[],[],[],[],[],[],()),[],[],()) (b.getD a.toNat ByteArray.empty) n).bind fun o=>bif decide (o.1=0)then(some ((0,0,0,false,(0,0,0,0,0,false,[],[],[],[],[],[],[],[],[],()),[],[],()),a,4,()))else(qC.l1a b o.1 (w6 (a+1)) p q r s t u v w x y o.2.1))else none)else none)else(bif decide (n<2)then(some ((0,0,0,false,(0,0,0,0,0,false,[],[],[],[],[],[],[],[],[],()),[],[],()),(b.length:Int),2,()))else((vB.f (c,d,e,g,(h,i,j,k,l,m,[],[],[],[],[],[],[],[],[],()),[],[],())).bind fun z=>bif !z.1 then(some ((0,0,0,false,(0,0,0,0,0,false,[],[],[],[],[],[],[],[],[],()),[],[],()),0,1,()))else(some ((c,d,e,g,(h,i,j,k,l,m,[],[],[],[],[],[],[],[],[],()),[],[],()),0,0,())))):=pS 45 1
theorem qC.l1a_eq (b d a g h i j k l m n o p c):qC.l1a b d a g h i j k l m n o p c=bif decide (a<(b.length:Int))then(bif decide (0≤a)then(bif decide (a<(b.length:Int))then((aA.f c (b.getD a.toNat ByteArray.empty) d).bind fun e=>bif decide (e.1=0)then(some ((0,0,0,false,(0,0,0,0,0,false,[],[],[],[],[],[],[],[],[],()),[],[],()),a,4,()))else(qC.l1a b e.1 (w6 (a+1)) g h i j k l m n o p e.2.1))else none)else none)else(bif decide (d<2)then(some ((0,0,0,false,(0,0,0,0,0,false,[],[],[],[],[],[],[],[],[],()),[],[],()),(b.length:Int),2,()))else((vB.f c).bind fun q=>bif !q.1 then(some ((0,0,0,false,(0,0,0,0,0,false,[],[],[],[],[],[],[],[],[],()),[],[],()),0,1,()))else(some (c,0,0,())))):=pS 45 1
theorem cJ.f_eq (a b):cJ.f a b=some (((oJ a).toList==(oJ b).toList),()):=rS k46
theorem pN.f_eq (a b):pN.f a b=bif decide (a.1=b.1)then(bif decide (a.2.1=b.2.1)then(bif decide (a.2.2.1=b.2.2.1)then(bif(a.2.2.2.1==b.2.2.2.1)then((bE.f a.2.2.2.2.1 b.2.2.2.2.1).bind fun c=>bif c.1 then((tA.f a.2.2.2.2.2.1 b.2.2.2.2.2.1).bind fun d=>bif d.1 then((tA.f a.2.2.2.2.2.2.1 b.2.2.2.2.2.2.1).bind fun e=>some (e.1,()))else(some (false,())))else(some (false,())))else(some (false,())))else(some (false,())))else(some (false,())))else(some (false,())):=rS k48
theorem pC.f_eq (a b c):pC.f a b c=(nG.f).bind fun d=>bif !d.1 then(some (false,()))else((lF.f a).bind fun e=>bif !e.1 then(pC.l1 c true a b)else((lF.f b).bind fun g=>bif !g.1 then(pC.l1 c true a b)else(pC.l1 c (decide ((c.length:Int)>6000)) a b))):=rS k8
theorem pC.l1_eq (b g a c):pC.l1 b g a c=bif g then((nG.f).bind fun k=>some (k.1,()))else((cE.f b).bind fun h=>(mC.f a).bind fun i=>(pB.f a).bind fun j=>(lA.f h.1).bind fun d=>(qC.f b).bind fun e=>(nG.f).bind fun l=>bif l.1 then((cJ.f i.1 j.1).bind fun m=>bif m.1 then(bif decide (i.2.1=j.2.1)then((rG.f d.1 e.1).bind fun n=>bif n.1 then(bif decide (d.2.1=e.2.1)then(bif decide (d.2.2.1=e.2.2.1)then((vD.f a).bind fun o=>(vB.f a).bind fun p=>bif(o.1==p.1)then((pN.f a c).bind fun q=>(rG.f a c).bind fun r=>bif(q.1==r.1)then((cJ.f h.1 b).bind fun s=>some (s.1,()))else(some (false,())))else(some (false,())))else(some (false,())))else(some (false,())))else(some (false,())))else(some (false,())))else(some (false,())))else(some (false,()))):=pS 8 1
end
end Go.GV.YtegmfagkklekaaaGreatDoor
