/-
Part of the words that MeetDates is proved with: no statement of its own, no conditions.
-/
import Derived.Test.YtegmfagkklekaaaGreatDoorFMeetDatesr
set_option linter.unusedVariables false
set_option linter.unusedSimpArgs false
namespace Go.GV.YtegmfagkklekaaaGreatDoor
open Go.Proofs
theorem szS (l:List UInt8):(mkS l).size=l.length:=by rw[iP1,B_mk]
def F0 :List UInt8:=[68,84,83,84,65,82,84,59,84,90,73,68,61]
def F1 :List UInt8:=[68,85,82,65,84,73,79,78,58]
def F2 :List UInt8:=[82,82,85,76,69,58]
def F3 :List UInt8:=[82,68,65,84,69,58]
def F4 :List UInt8:=[69,88,68,65,84,69,58]
theorem fr0 :oC.f 0=some (mkS F0,()):=by rw[oC.f_eq];rfl
theorem fr1 :oC.f 1=some (mkS F1,()):=by rw[oC.f_eq];rfl
theorem fr2 :oC.f 2=some (mkS F2,()):=by rw[oC.f_eq];rfl
theorem fr3 :oC.f 3=some (mkS F3,()):=by rw[oC.f_eq];rfl
theorem fr4 :oC.f 4=some (mkS F4,()):=by rw[oC.f_eq];rfl
def Fr :Nat→List UInt8
 | 0=>F0
 | 1=>F1
 | 2=>F2
 | 3=>F3
 | _=>F4
theorem fr_k (k:Nat) (hk:k<5):oC.f (k:Int)=some (mkS (Fr k),()):=by
 have:k=0∨k=1∨k=2∨k=3∨k=4:=by omega
 rcases this with rfl | rfl | rfl | rfl | rfl
 ·exact fr0
 ·exact fr1
 ·exact fr2
 ·exact fr3
 ·exact fr4
def pf (F s:List UInt8):Bool:=decide (s.take F.length=F)
theorem lS (s F:List UInt8):wC.f (mkS s) (mkS F)=some (pf F s,()):=by
 unfold pf;rw[wC.f_eq,kE.f_eq,szS,szS];by_cases c:(s.length:Int)≥(F.length:Int)
 ·have e:(mkS s).extract 0 F.length=mkS (s.take F.length):=iM1 (by rw[jS1,B_mk,B_mk]);have hd:(mkS (s.take F.length)=mkS F)↔s.take F.length=F:=⟨fun h=>congrArg B h,fun h=>by rw[h]⟩
  simp(disch:=omega)only[ss,oU1,e];rw[decide_eq_decide.2 hd]
 ·rw[dn c,cond_false,dn (fun h=>c (by have:=congrArg List.length h;rw[zW1]at this;omega))];rfl
theorem eB1 (k:Nat) (v:List UInt8):pf (Fr k) (Fr k++v)=true:=by unfold pf;rw[bZ1];exact dp rfl
abbrev zM :Mt:=(0,0,0,false,zR,[],[],())
abbrev Rs :Type:=Option (Mt×Int×Int×Unit)
def bad9 (i:Int):Rs:=some (zM,i,4,())
noncomputable def QA (X:List ByteArray) (nx i:Int) (y:Mt):Rs:=kA.l1a X nx X (X.length:Int) i 0 0 0 false 0 0 0 0 0 false y
noncomputable def QB (X:List ByteArray) (s:ByteArray) (nx i:Int) (y:Mt):Rs:=kA.l2a X i s nx X (X.length:Int) i 0 0 0 false 0 0 0 0 0 false y
noncomputable def QC (X:List ByteArray) (nx i:Int) (b:Bool) (y:Mt):Rs:=bif b then bad9 i else QA X (nx+1) (i+1) y
theorem sT1 (X:List ByteArray) (nx i:Nat) (b:Bool) (y:Mt) (h:nx<10) (h2:i<1000000):kA.l5a X (i:Int) (nx:Int) X (X.length:Int) (i:Int) b 0 0 0 false 0 0 0 0 0 false y=QC X nx i b y:=by
 rw[kA.l5a_eq];unfold QC QA bad9
 cases b with
 | true=>rfl
 | false=>simp(disch:=omega)only[ss]
theorem cP1 (X:List ByteArray) (s:List UInt8) (k i:Nat) (y:Mt) (hk:k<5) (hi:i<1000000) (hp:pf (Fr k) s=true):
  QB X (mkS s) k i y=(dF.f y (k:Int) (mkS (s.drop (Fr k).length))).bind fun t=>QC X k i (!t.1) t.2.1:=by
 have hl:(Fr k).length≤s.length:=by unfold pf at hp;have:=congrArg List.length (of_decide_eq_true hp);rw[zW1]at this;omega
 have hx:(mkS s).extract (Fr k).length s.length=mkS (s.drop (Fr k).length):=iM1 (by rw[←szS s,vO1,B_mk,B_mk]);unfold QB;rw[kA.l2a_eq];simp(disch:=omega)only[ss,fr_k k hk,lS,hp,kA.l3a_eq];rw[kA.l4a_eq];simp(disch:=omega)only[ss,fr_k k hk,lS,hp,szS,hx]
 congr 1
 funext t
 exact sT1 X k i _ _ (by omega) hi
theorem eU1 (X:List ByteArray) (s:List UInt8) (nx i:Nat) (y:Mt) (hi:i<X.length) (hX:X.getD i ByteArray.empty=mkS s):QA X nx i y=QB X (mkS s) nx i y:=by unfold QA QB;rw[kA.l1a_eq];simp(disch:=omega)only[ss,hX]
theorem yT1 (X:List ByteArray) (nx:Nat) (y:Mt):QA X nx X.length y=if nx≤1 then some (zM,(X.length:Int),2,())else(sC.f y).bind fun t=>bif !t.1 then some (zM,0,1,())else some (y,0,0,()):=by
 unfold QA;rw[kA.l1a_eq];by_cases c:nx≤1
 ·rw[if_pos c];simp(disch:=omega)only[ss];rfl
 ·rw[if_neg c];simp(disch:=omega)only[ss];rfl
theorem sP1 (X:List ByteArray) (s:List UInt8) (hi:0<X.length) (hX:X.getD 0 ByteArray.empty=mkS s):
  kA.l1 X 0 X (X.length:Int) 0 0 0 0 false 0 0 0 0 0 false 0 0 0 false 0 0 0 0 0 false=bif pf F0 s then(dF.f zM 0 (mkS (s.drop F0.length))).bind fun t=>QC X ((0:Nat):Int) ((0:Nat):Int) (!t.1) t.2.1 else bad9 0:=by
 have t0:(0:Int).toNat=0:=rfl;rw[kA.l1_eq];simp(disch:=omega)only[ss,t0,hX];rw[kA.l2_eq];simp(disch:=omega)only[ss,fr0,lS]
 cases hp:pf F0 s with
 | false=>
  simp(disch:=omega)only[ss,kA.l3_eq];rw[kA.l4_eq];simp(disch:=omega)only[ss,fr0,lS,hp,kA.l5_eq];rfl
 | true=>
  have hl:F0.length≤s.length:=by unfold pf at hp;have:=congrArg List.length (of_decide_eq_true hp);rw[zW1]at this;omega
  have hx:(mkS s).extract F0.length s.length=mkS (s.drop F0.length):=iM1 (by rw[←szS s,vO1,B_mk,B_mk]);simp(disch:=omega)only[ss,kA.l3_eq];rw[kA.l4_eq];simp(disch:=omega)only[ss,fr0,lS,hp,szS,hx]
  congr 1
  funext t
  exact sT1 X 0 0 _ _ (by omega) (by omega)
set_option maxRecDepth 1000000
abbrev exA :List UInt8:=[48,58,50,48,50,54,48,49,48,53,84,48,57,48,48,48,48]
abbrev exB :List UInt8:=[80,84,49,72]
abbrev exR :List UInt8:=[70,82,69,81,61,87,69,69,75,76,89,59,67,79,85,78,84,61,50]
theorem vM1 :jI.f ⟨#[48,58,50,48,50,54,48,49,48,53,84,48,57,48,48,48,48]⟩=some (0,1767603600,true,()):=cC (E:=E) (f:=169) rfl (D:=c169) (c:=b169) (by kernel_rfl) (by kernel_rfl) _ 100 (by kernel_rfl)
theorem nT1 :mI.f ⟨#[80,84,49,72]⟩=some (3600,0,()):=cC (E:=E) (f:=170) rfl (D:=c170) (c:=b170) (by kernel_rfl) (by kernel_rfl) _ 100 (by kernel_rfl)
theorem cS1 :uN.f ⟨#[70,82,69,81,61,87,69,69,75,76,89,59,67,79,85,78,84,61,50]⟩=some (r0,0,0,()):=cC (E:=E) (f:=49) rfl (D:=c49) (c:=b49) (by kernel_rfl) (by kernel_rfl) _ 100 (by kernel_rfl)
theorem aT1 :wN.f [68,84,83,84,65,82,84,59,84,90,73,68,61,48,58,50,48,50,54,48,49,48,53,84,48,57,48,48,48,48,13,10,68,85,82,65,84,73,79,78,58,80,84,49,72,13,10,82,82,85,76,69,58,70,82,69,81,61,87,69,69,75,76,89,59,67,79,85,78,84,61,50,13,10]=some ([⟨#[68,84,83,84,65,82,84,59,84,90,73,68,61,48,58,50,48,50,54,48,49,48,53,84,48,57,48,48,48,48]⟩,⟨#[68,85,82,65,84,73,79,78,58,80,84,49,72]⟩,⟨#[82,82,85,76,69,58,70,82,69,81,61,87,69,69,75,76,89,59,67,79,85,78,84,61,50]⟩],0,0,()):=cC (E:=E) (f:=108) rfl (D:=c108) (c:=b108) (by kernel_rfl) (by kernel_rfl) _ 300 (by kernel_rfl)
theorem ex_p :kA.f [68,84,83,84,65,82,84,59,84,90,73,68,61,48,58,50,48,50,54,48,49,48,53,84,48,57,48,48,48,48,13,10,68,85,82,65,84,73,79,78,58,80,84,49,72,13,10,82,82,85,76,69,58,70,82,69,81,61,87,69,69,75,76,89,59,67,79,85,78,84,61,50,13,10]=some ((0,1767603600,3600,true,r0,[],[],()),0,0,()):=by
 have hs:wN.f [68,84,83,84,65,82,84,59,84,90,73,68,61,48,58,50,48,50,54,48,49,48,53,84,48,57,48,48,48,48,13,10,68,85,82,65,84,73,79,78,58,80,84,49,72,13,10,82,82,85,76,69,58,70,82,69,81,61,87,69,69,75,76,89,59,67,79,85,78,84,61,50,13,10]=some ([F0++exA,F1++exB,F2++exR].map mkS,0,0,()):=aT1;obtain⟨X,hX⟩:∃X,X=[F0++exA,F1++exB,F2++exR].map mkS:=⟨_,rfl⟩
 have hl:X.length=3:=by rw[hX];rfl
 have g0:X.getD 0 ByteArray.empty=mkS (Fr 0++exA):=by rw[hX];rfl
 have g1:X.getD 1 ByteArray.empty=mkS (Fr 1++exB):=by rw[hX];rfl
 have g2:X.getD 2 ByteArray.empty=mkS (Fr 2++exR):=by rw[hX];rfl
 have r1:dF.f zM 0 (mkS exA)=some (true,(0,1767603600,0,false,zR,[],[],()),()):=by rw[dF.f_eq];simp(disch:=omega)only[ss,show jI.f (mkS exA)=_ from vM1]
 have r2:dF.f (0,1767603600,0,false,zR,[],[],()) ((1:Nat):Int) (mkS exB)=some (true,(0,1767603600,3600,false,zR,[],[],()),()):=by rw[dF.f_eq];simp(disch:=omega)only[ss,show mI.f (mkS exB)=_ from nT1]
 have r3:dF.f (0,1767603600,3600,false,zR,[],[],()) ((2:Nat):Int) (mkS exR)=some (true,(0,1767603600,3600,true,r0,[],[],()),()):=by rw[dF.f_eq];simp(disch:=omega)only[ss,show uN.f (mkS exR)=_ from cS1]
 have hm:sC.f (0,1767603600,3600,true,r0,[],[],())=some (true,()):=ex_m;rw[kA.f_eq,hs,←hX];simp only[nW1,decide_true,xW1,cond_false];rw[sP1 X _ (by omega) g0,show pf F0 (Fr 0++exA)=true from eB1 0 exA,cond_true,show(Fr 0++exA).drop F0.length=exA from vY1 (l₁:=F0),r1];simp only[nW1];show QA X ((1:Nat):Int) ((1:Nat):Int) _=_;rw[eU1 X _ 1 1 _ (by omega) g1,cP1 X _ 1 1 _ (by omega) (by omega) (eB1 1 exB),vY1,r2];simp only[nW1];show QA X ((2:Nat):Int) ((2:Nat):Int) _=_;rw[eU1 X _ 2 2 _ (by omega) g2,cP1 X _ 2 2 _ (by omega) (by omega) (eB1 2 exR),vY1,r3];simp only[nW1];show QA X ((3:Nat):Int) ((3:Nat):Int) _=_;have:=yT1 X 3 (0,1767603600,3600,true,r0,[],[],());rw[hl,if_neg (by omega),hm]at this;exact this
set_option maxRecDepth 1000000
abbrev exD :Int×Int×Int×Int×Int×Unit:=(20458,2026,1,5,0,())
abbrev exP :(Int×Int×Int×Int×Int×Bool×List Int×List Int×List Int×List Int×List (Int×Int×Unit)×List Int×List Int×List Int×List Int×Unit)×((Int×Int×Int×Int×Int×Bool×List Int×List Int×List Int×List Int×List (Int×Int×Unit)×List Int×List Int×List Int×List Int×Unit)×Int×(Int×Int×Int×Int×Int×Unit)×Int×Unit)×Int×List Int×List Int×List Int×Unit:=(r0,(r0,1767603600,exD,32400,()),1767603600,[9],[0],[0],())
theorem zQ1 :eC.f r0 1767603600 1772496000=some (exP,true,()):=cC (E:=E) (f:=65) rfl (D:=c65) (c:=b65) (by kernel_rfl) (by kernel_rfl) _ 120 (by kernel_rfl)
theorem fW1 :vC.f (r0,1767603600,exD,32400,()) 1767603600=some (20458,20464,()):=cC (E:=E) (f:=205) rfl (D:=c205) (c:=b205) (by kernel_rfl) (by kernel_rfl) _ 60 (by kernel_rfl)
theorem cV1 :vC.f (r0,1767603600,exD,32400,()) 1768176000=some (20465,20471,()):=cC (E:=E) (f:=205) rfl (D:=c205) (c:=b205) (by kernel_rfl) (by kernel_rfl) _ 60 (by kernel_rfl)
theorem mW1 :bD.f exP 1767603600=some (true,()):=cC (E:=E) (f:=206) rfl (D:=c206) (c:=b206) (by kernel_rfl) (by kernel_rfl) _ 60 (by kernel_rfl)
theorem zV1 :bD.f exP 1768176000=some (true,()):=cC (E:=E) (f:=206) rfl (D:=c206) (c:=b206) (by kernel_rfl) (by kernel_rfl) _ 60 (by kernel_rfl)
theorem kU1 :pB.f exP 20458=some (true,()):=cC (E:=E) (f:=208) rfl (D:=c208) (c:=b208) (by kernel_rfl) (by kernel_rfl) _ 60 (by kernel_rfl)
theorem mV1 :pB.f exP 20459=some (false,()):=cC (E:=E) (f:=208) rfl (D:=c208) (c:=b208) (by kernel_rfl) (by kernel_rfl) _ 60 (by kernel_rfl)
theorem sV1 :pB.f exP 20460=some (false,()):=cC (E:=E) (f:=208) rfl (D:=c208) (c:=b208) (by kernel_rfl) (by kernel_rfl) _ 60 (by kernel_rfl)
theorem mU1 :pB.f exP 20461=some (false,()):=cC (E:=E) (f:=208) rfl (D:=c208) (c:=b208) (by kernel_rfl) (by kernel_rfl) _ 60 (by kernel_rfl)
theorem kW1 :pB.f exP 20462=some (false,()):=cC (E:=E) (f:=208) rfl (D:=c208) (c:=b208) (by kernel_rfl) (by kernel_rfl) _ 60 (by kernel_rfl)
theorem vV1 :pB.f exP 20463=some (false,()):=cC (E:=E) (f:=208) rfl (D:=c208) (c:=b208) (by kernel_rfl) (by kernel_rfl) _ 60 (by kernel_rfl)
theorem aV1 :pB.f exP 20464=some (false,()):=cC (E:=E) (f:=208) rfl (D:=c208) (c:=b208) (by kernel_rfl) (by kernel_rfl) _ 60 (by kernel_rfl)
theorem lV1 :pB.f exP 20465=some (true,()):=cC (E:=E) (f:=208) rfl (D:=c208) (c:=b208) (by kernel_rfl) (by kernel_rfl) _ 60 (by kernel_rfl)
theorem nU1 :cA.f exP 20458 0 86400 100000 ()=some ([1767603600],(),()):=cC (E:=E) (f:=100001) rfl (D:=nW) (c:=hH1) (by kernel_rfl) (by kernel_rfl) _ 60 (by kernel_rfl)
theorem cW1 :cA.f exP 20465 0 86400 100000 ()=some ([1768208400],(),()):=cC (E:=E) (f:=100001) rfl (D:=nW) (c:=hH1) (by kernel_rfl) (by kernel_rfl) _ 60 (by kernel_rfl)
abbrev exC (l:List Int):(Int×Unit)×(Int×Unit)×((((List Int)×Unit)×(Int×Unit)×Unit)×Unit)×Unit:=((1767603600,()),(1772496000,()),(((l,()),(2,()),()),()),())
theorem dW1 :qA.f [1767603600] (1767603600,()) (1772496000,()) ((([],()),(2,()),()),())=some (true,(1767603600,()),(1772496000,()),((([1767603600],()),(2,()),()),()),()):=cC (E:=E) (f:=100005) rfl (D:=cX) (c:=oJ1) (by kernel_rfl) (by kernel_rfl) _ 60 (by kernel_rfl)
theorem tU1 :qA.f [1768208400] (1767603600,()) (1772496000,()) ((([1767603600],()),(2,()),()),())=some (false,(1767603600,()),(1772496000,()),((([1767603600,1768208400],()),(2,()),()),()),()):=cC (E:=E) (f:=100005) rfl (D:=cX) (c:=oJ1) (by kernel_rfl) (by kernel_rfl) _ 60 (by kernel_rfl)
theorem hS1 :iE.f 1767603600=some (20458,32400,()):=cC (E:=E) (f:=122) rfl (D:=c122) (c:=b122) (by kernel_rfl) (by kernel_rfl) _ 60 (by kernel_rfl)
theorem uS1 :iE.f 1772496000=some (20515,0,()):=cC (E:=E) (f:=122) rfl (D:=c122) (c:=b122) (by kernel_rfl) (by kernel_rfl) _ 60 (by kernel_rfl)
theorem mF1 (d:Int) (h0:20458≤d) (hd:d≤20464) (hf:pB.f exP d=some (false,())):eA.l1 20464 20515 d 1767603600 1772496000 2 [1767603600] exP=eA.l1 20464 20515 (d+1) 1767603600 1772496000 2 [1767603600] exP:=by
 have hm:mm false 20464 20515=20464:=rfl
 conv=>lhs;rw[eA.l1_eq]
 simp(disch:=omega)only[ss,hm,hf,eA.l2_eq]
theorem gW1 :eA.f exP 1767603600 20458 20464 1767603600 1772496000 (exC [])=some (true,exC [1767603600],()):=by
 have hm:mm false 20464 20515=20464:=rfl;have h0:eA.f exP 1767603600 20458 20464 1767603600 1772496000 (exC [])=eA.l1 20464 20515 20458 1767603600 1772496000 2 [] exP:=by rw[eA.f_eq,hS1,uS1];rfl
 rw[h0,eA.l1_eq,hm,dp (by omega),cond_true,kU1];simp only[nW1,cond_true];rw[nU1];simp only[nW1];rw[dW1];simp only[nW1,xW1];rw[eA.l2_eq,cond_false,wr (by omega) (by omega)]
 rw[show(20458+1:Int)=20459 from rfl,mF1 20459 (by omega) (by omega) mV1,show(20459+1:Int)=20460 from rfl,mF1 20460 (by omega) (by omega) sV1,show(20460+1:Int)=20461 from rfl,mF1 20461 (by omega) (by omega) mU1,
  show(20461+1:Int)=20462 from rfl,mF1 20462 (by omega) (by omega) kW1,show(20462+1:Int)=20463 from rfl,mF1 20463 (by omega) (by omega) vV1,show(20463+1:Int)=20464 from rfl,mF1 20464 (by omega) (by omega) aV1,show(20464+1:Int)=20465 from rfl]
 rw[eA.l1_eq,hm,dn (by omega),cond_false]
theorem zU1 :eA.f exP 1768176000 20465 20471 1767603600 1772496000 (exC [1767603600])=some (false,exC [1767603600,1768208400],()):=by
 have hm:mm false 20471 20515=20471:=rfl;have h0:eA.f exP 1768176000 20465 20471 1767603600 1772496000 (exC [1767603600])=eA.l1 20471 20515 20465 1767603600 1772496000 2 [1767603600] exP:=by rw[eA.f_eq,hS1,uS1];rfl
 rw[h0,eA.l1_eq,hm,dp (by omega),cond_true,lV1];simp only[nW1,cond_true];rw[cW1];simp only[nW1];rw[tU1];simp only[nW1,xX1];rw[eA.l2_eq,cond_true]
theorem qR1 :oA.f exP 1767603600 1772496000 (exC [])=some (exC [1767603600,1768208400],()):=by rw[oA.f_eq,oA.l1_eq,dp (by omega),cond_true];rw[show vC.f exP.2.1 1767603600=_ from fW1];simp only[nW1];rw[mW1];simp only[nW1,cond_true];rw[gW1];simp only[nW1,xW1];rw[oA.l2_eq,cond_false,wr (x:=20464+1) (by omega) (by omega),wr (by omega) (by omega),show((20464+1)*86400:Int)=1768176000 from rfl,oA.l1_eq,dp (by omega),cond_true];rw[show vC.f exP.2.1 1768176000=_ from cV1];simp only[nW1];rw[zV1];simp only[nW1,cond_true];rw[zU1];simp only[nW1,xX1];rw[oA.l2_eq,cond_true]
theorem ex_l :uD.f r0 1767603600 1772496000 4096=some ([1767603600,1768208400],0,()):=by
 have hw:tB.f exP 1767603600 1772496000 (([],()),(2,()),())=some ((([1767603600,1768208400],()),(2,()),()),()):=by rw[tB.f_eq];dsimp only;rw[cond_false,show mm true 1767603600 1767603600=1767603600 from rfl,tB.l1_eq];dsimp only;rw[dp (by omega),cond_true,qR1];rfl
 have hf:nC.f exP r0 1767603600 1772496000 4097=some ([1767603600,1768208400],()):=by rw[nC.f_eq];dsimp only;rw[dp (by omega),cond_true,show mm false 4097 2=2 from rfl,nC.l1_eq,hw];rfl
 rw[uD.f_eq,zQ1];simp only[nW1,xW1,cond_false];rw[dn (by omega),cond_false,dn (by omega),cond_false,wr (by omega) (by omega),show(4096+1:Int)=4097 from rfl,hf];simp(disch:=omega)only[ss,hX1,qY1]
abbrev aY (l:List Int):Prop:=l.Pairwise (· < ·)
def dd :Int→List Int→List Int
 | _,[]=>[]
 | p,a::l=>if a=p then dd a l else a::dd a l
theorem xO1 :∀(l:List Int) (p x:Int),x∈dd p l∨x=p↔x∈l∨x=p
 | [],p,x=>by simp[dd]
 | a::l,p,x=>by
  unfold dd;have ih:=xO1 l a x;by_cases h:a=p
  ·subst h;rw[if_pos rfl,ih,sW1];constructor
   ·rintro(h | h)
    ·exact .inl (.inr h)
    ·exact .inr h
   ·rintro((h | h) | h)
    ·exact .inr h
    ·exact .inl h
    ·exact .inr h
  ·rw[if_neg h,sW1,sW1];constructor
   ·rintro((h1 | h1) | h1)
    ·exact .inl (.inl h1)
    ·rcases ih.1 (.inl h1)with h2 | h2
     ·exact .inl (.inr h2)
     ·exact .inl (.inl h2)
    ·exact .inr h1
   ·rintro((h1 | h1) | h1)
    ·exact .inl (.inl h1)
    ·rcases ih.2 (.inl h1)with h2 | h2
     ·exact .inl (.inr h2)
     ·exact .inl (.inl h2)
    ·exact .inr h1
theorem rD1 :∀(l:List Int) (p:Int),(p::l).Pairwise (· ≤ ·)→aY (p::dd p l)
 | [],p,_=>List.pairwise_singleton _ _
 | a::l,p,h=>by
  unfold dd;rw[gY1]at h;have ih:=rD1 l a h.2;by_cases he:a=p
  ·subst he;rw[if_pos rfl];exact ih
  ·rw[if_neg he];have hlt:p<a:=by have:=h.1 a qW1;omega
   refine gY1.2 ⟨fun b hb=>?_,ih⟩;rcases sW1.1 hb with rfl | hb
   ·exact hlt
   ·have:=(gY1.1 ih).1 b hb;omega
def dds :List Int→List Int
 | []=>[]
 | a::l=>a::dd a l
theorem fS1 (N:Nat) (hN:N≤1000000) (b:Nat):∀(k i q:Nat) (y:List Int),y.length=N→N-(b+q)=k→1≤q→i<b+q→b+q≤N →
  dA.l3 i b q y=some (y.take i++dd (y.getD (b+q-1) 0) (y.drop (b+q)),()):=by
 intro k
 induction k with
 | zero=>
  intro i q y hy hk hq hi hb;have e:b+q=y.length:=by omega
  have e2:(y.take i++List.replicate (y.length-i) 0).take i=y.take i:=by rw[oY1 (by rw[zW1];omega),List.take_take,Nat.min_self]
  rw[dA.l3_eq,e,kY1];simp(disch:=omega)only[ss,rW1,zW1,List.length_replicate,e2,dA.l4_eq,dd,kX1]
 | succ k ih=>
  intro i q y hy hk hq hi hb;have hlt:b+q<y.length:=by omega
  have w1:w6 ((q:Int)-1)=((q-1:Nat):Int):=eX (by omega) (by omega);have w2:((b:Int)+((q-1:Nat):Int)).toNat=b+q-1:=by omega
  have e1:((q:Int)<((y.length-b:Nat):Int)):=by omega
  rw[dA.l3_eq,aC 0 hlt];simp(disch:=omega)only[ss,w1,w2,e1,eY1,dd];by_cases hc:y.getD (b+q) 0=y.getD (b+q-1) 0
  ·simp(disch:=omega)only[ss,if_pos hc];have:=ih i (q+1) y hy (by omega) (by omega) (by omega) (by omega);rw[show b+(q+1)-1=b+q by omega,show b+(q+1)=b+q+1 by omega]at this;exact this
  ·simp(disch:=omega)only[ss,if_neg hc];have:=ih (i+1) (q+1) (y.set i (y.getD (b+q) 0)) (by simp[hy]) (by omega) (by omega) (by omega) (by omega);refine this.trans ?_;have g1:(y.set i (y.getD (b+q) 0)).getD (b+(q+1)-1) 0=y.getD (b+q) 0:=by
    rw[show b+(q+1)-1=b+q by omega,tW1,tW1,List.getElem?_set];by_cases h:i=b+q
    ·omega
    ·rw[if_neg h]
   have g2:(y.set i (y.getD (b+q) 0)).getD i 0=y.getD (b+q) 0:=by rw[jK 0 (show i<(y.set i (y.getD (b+q) 0)).length by simp;omega)];simp
   rw[g1,jH 0 (show i<(y.set i (y.getD (b+q) 0)).length by simp;omega),List.drop_set_of_lt (by omega),List.take_set_of_le (wW1 i),g2,show b+(q+1)=b+q+1 by omega];simp
theorem aS1 (y:List Int) (hN:y.length≤1000000):∀(k q:Nat),y.length-q=k→1≤q→q≤y.length →
  dA.l2 q y=some (y.take q++dd (y.getD (q-1) 0) (y.drop q),()):=by
 intro k
 induction k with
 | zero=>
  intro q hk hq hq2;have e:q=y.length:=by omega
  subst e;rw[dA.l2_eq];simp(disch:=omega)only[ss,dA.l5_eq,kY1,List.take_length,dd,kX1]
 | succ k ih=>
  intro q hk hq hq2;have hlt:q<y.length:=by omega
  have w1:w6 ((q:Int)-1)=((q-1:Nat):Int):=eX (by omega) (by omega);rw[dA.l2_eq,aC 0 hlt];simp(disch:=omega)only[ss,w1,dd];by_cases hc:y.getD q 0=y.getD (q-1) 0
  ·simp(disch:=omega)only[ss,if_pos hc];have:=fS1 y.length hN q _ q 1 y rfl rfl (wW1 _) (by omega) (by omega);rw[show q+1-1=q by omega]at this;exact this
  ·simp(disch:=omega)only[ss,if_neg hc];have:=ih (q+1) (by omega) (by omega) (by omega);rw[show q+1-1=q by omega,jH 0 hlt]at this;refine Eq.trans this ?_;simp
theorem gY (y:List Int) (hN:y.length≤1000000):dA.f y=some (dds y,()):=by
 rw[dA.f_eq]
 cases y with
 | nil=>simp(disch:=omega)only[ss,qY1,jX1,dA.l1_eq];rfl
 | cons a l=>
  by_cases h:l=[]
  ·subst h;simp(disch:=omega)only[ss,hX1,qY1,dA.l1_eq];rfl
  ·have h1:0<l.length:=xZ1.2 h;have:=aS1 (a::l) hN _ 1 rfl (wW1 _) (by simp);simp(disch:=omega)only[ss,hX1];refine Eq.trans this ?_;rfl
def zL (ex:List Int) (e t:Int):Bool:= !(decide (t∈ex)||decide (t≥e))
theorem vH1 {p:Int→Bool} {x:Int} (h:p x=false):List.filter p [x]=[]:=by rw[List.filter_cons,h];rfl
theorem oM1 {p:Int→Bool} {x:Int} (h:p x=true):List.filter p [x]=[x]:=by rw[List.filter_cons,h];rfl
section
variable (z st du : Int) (rc : Bool) (f iv ct un wk : Int) (en : Bool) (mo we yd md : List Int) (dy : List (Int × Int × Unit)) (ho mi se po da ex : List Int) (e : Int)
theorem rT1 (hx:Rise ex) (hl:ex.length≤1000000) (t:Int):zF.f t (z,st,du,rc,f,iv,ct,un,wk,en,mo,we,yd,md,dy,ho,mi,se,po,da,ex,()) (e,())=some (!zL ex e t,(z,st,du,rc,f,iv,ct,un,wk,en,mo,we,yd,md,dy,ho,mi,se,po,da,ex,()),(e,()),()):=by
 obtain⟨i,h1,h2,h3⟩:=pO1 hl hx t;have hd:decide (i<ex.length∧ex.getD i 0=t)=decide (t∈ex):=decide_eq_decide.2 ⟨fun h=>by rw[←h.2];exact rH h.1,h3⟩;rw[hd]at h1;rw[zF.f_eq];dsimp only;rw[h1];simp only[nW1];unfold zL;by_cases c:t∈ex
 ·rw[dp c,cond_true,Bool.true_or];rfl
 ·rw[dn c,cond_false,Bool.false_or,Bool.not_not]
theorem pT1 (hx:Rise ex) (hl:ex.length≤1000000) (l:List Int) (hn:l.length≤1000000):∀(k i:Nat),l.length-i=k→i≤l.length →
  (∃j,i≤j∧j<l.length∧zL ex e (l.getD j 0)=false∧(∀q,i≤q→q<j→zL ex e (l.getD q 0)=true)∧dB.l1 (l.length:Int) (i:Int) l (z,st,du,rc,(f,iv,ct,un,wk,en,mo,we,yd,md,dy,ho,mi,se,po,()),da,ex,()) e=some ((j:Int),l,((z,st,du,rc,f,iv,ct,un,wk,en,mo,we,yd,md,dy,ho,mi,se,po,da,ex,()),(e,()),()),())) ∨
  ((∀q,i≤q→q<l.length→zL ex e (l.getD q 0)=true)∧dB.l1 (l.length:Int) (i:Int) l (z,st,du,rc,(f,iv,ct,un,wk,en,mo,we,yd,md,dy,ho,mi,se,po,()),da,ex,()) e=some (-1,l,((z,st,du,rc,f,iv,ct,un,wk,en,mo,we,yd,md,dy,ho,mi,se,po,da,ex,()),(e,()),()),())):=by
 intro k
 induction k with
 | zero=>
  intro i hk hi;refine .inr ⟨fun q h1 h2=>by omega,?_⟩;rw[dB.l1_eq];simp(disch:=omega)only[ss]
 | succ k ih=>
  intro i hk hi;have hlt:i<l.length:=by omega
  rw[dB.l1_eq];dsimp only;have h1:=rT1 z st du rc f iv ct un wk en mo we yd md dy ho mi se po da ex e hx hl (l.getD i 0);simp(disch:=omega)only[ss,h1];cases hkp:zL ex e (l.getD i 0)with
  | false=>
   refine .inl ⟨i,wW1 _,hlt,hkp,fun q h1 h2=>by omega,?_⟩;rfl
  | true=>
   simp only[xW1,cond_false];rcases ih (i+1) (by omega) (by omega)with⟨j,a1,a2,a3,a4,a5⟩ | ⟨a1,a2⟩
   ·refine .inl ⟨j,by omega,a2,a3,fun q q1 q2=>?_,a5⟩;by_cases c:q=i
    ·rw[c];exact hkp
    ·exact a4 q (by omega) q2
   ·refine .inr ⟨fun q q1 q2=>?_,a2⟩;by_cases c:q=i
    ·rw[c];exact hkp
    ·exact a1 q (by omega) q2
theorem qS1 (hx:Rise ex) (hl:ex.length≤1000000) (l:List Int) (hn:l.length≤1000000):∀(k i p:Nat) (y:List Int),l.length-i=k→i≤l.length→p≤i→y.length=l.length→y.take p=(l.take i).filter (zL ex e)→y.drop i=l.drop i →
  fA.l2 (p:Int) (i:Int) y (z,st,du,rc,(f,iv,ct,un,wk,en,mo,we,yd,md,dy,ho,mi,se,po,()),da,ex,()) e=some (l.filter (zL ex e),((z,st,du,rc,f,iv,ct,un,wk,en,mo,we,yd,md,dy,ho,mi,se,po,da,ex,()),(e,()),()),()):=by
 intro k
 induction k with
 | zero=>
  intro i p y hk hi hp hy ht hd;have e1:i=l.length:=by omega
  subst e1;rw[List.take_length]at ht;have hlen:(y.take p++List.replicate (y.length-p) 0).length=y.length:=by simp;omega
  have htk:(y.take p++List.replicate (y.length-p) 0).take p=l.filter (zL ex e):=by rw[oY1 (by rw[zW1];omega),List.take_take,Nat.min_self,ht]
  rw[fA.l2_eq];simp(disch:=omega)only[ss,hlen,htk,fA.l3_eq]
 | succ k ih=>
  intro i p y hk hi hp hy ht hd;have hlt:i<l.length:=by omega
  have hg:y.getD i 0=l.getD i 0:=by have h1:=aC 0 (show i<y.length by omega);have h2:=aC 0 hlt;rw[hd,h2]at h1;injection h1 with h1 _;exact h1.symm
  have hd':y.drop (i+1)=l.drop (i+1):=by have h1:=congrArg (List.drop 1) hd;rwa[List.drop_drop,List.drop_drop]at h1
  have h1:=rT1 z st du rc f iv ct un wk en mo we yd md dy ho mi se po da ex e hx hl (l.getD i 0);rw[fA.l2_eq];dsimp only;simp(disch:=omega)only[ss,hg,h1];cases hkp:zL ex e (l.getD i 0)with
  | false=>
   simp only[xX1,cond_true,xW1,cond_false];exact ih (i+1) p y (by omega) (by omega) (by omega) hy (by rw[jH 0 hlt,List.filter_append,ht,vH1 hkp,kX1]) hd'
  | true=>
   simp only[xX1,cond_true,xW1,cond_false];refine ih (i+1) (p+1) (y.set p (l.getD i 0)) (by omega) (by omega) (by omega) (by rw[rZ1];exact hy) ?_ ?_
   ·rw[jH 0 hlt,List.filter_append,←ht];rw[jH 0 (show p<(y.set p (l.getD i 0)).length by rw[rZ1];omega),List.take_set_of_le (wW1 _)]
    congr 1
    rw[tW1,List.getElem?_set_self (by omega),zY1,oM1 hkp]
   ·rw[List.drop_set_of_lt (by omega)];exact hd'
theorem pM1 (hx:Rise ex) (hl:ex.length≤1000000) (l:List Int) (hn:l.length≤1000000):fA.f l ((z,st,du,rc,f,iv,ct,un,wk,en,mo,we,yd,md,dy,ho,mi,se,po,da,ex,()),(e,()),())=some (l.filter (zL ex e),((z,st,du,rc,f,iv,ct,un,wk,en,mo,we,yd,md,dy,ho,mi,se,po,da,ex,()),(e,()),()),()):=by
 have hI:∀v,dB.l1 (l.length:Int) ((0:Nat):Int) l (z,st,du,rc,(f,iv,ct,un,wk,en,mo,we,yd,md,dy,ho,mi,se,po,()),da,ex,()) e=v→dB.f l ((z,st,du,rc,f,iv,ct,un,wk,en,mo,we,yd,md,dy,ho,mi,se,po,da,ex,()),(e,()),())=v:=fun v h=>by rw[dB.f_eq];exact h
 rw[fA.f_eq];dsimp only;rcases pT1 z st du rc f iv ct un wk en mo we yd md dy ho mi se po da ex e hx hl l hn _ 0 rfl (uW1 _)with⟨j,a1,a2,a3,a4,a5⟩ | ⟨a1,a2⟩
 ·rw[hI _ a5];simp(disch:=omega)only[ss];refine qS1 z st du rc f iv ct un wk en mo we yd md dy ho mi se po da ex e hx hl l hn _ (j+1) j l rfl (by omega) (by omega) rfl ?_ rfl;rw[jH 0 a2,List.filter_append]
  have:(l.take j).filter (zL ex e)=l.take j:=List.filter_eq_self.2 fun x hx=>by obtain⟨q,h1,h2⟩:=uW hx;rw[zW1]at h1;rw[←h2,tW1,List.getElem?_take_of_lt (by omega),←tW1];exact a4 q (by omega) (by omega)
  rw[this,vH1 a3,kX1]
 ·rw[hI _ a2];simp(disch:=omega)only[ss,fA.l1_eq]
  have:l.filter (zL ex e)=l:=List.filter_eq_self.2 fun x hx=>by obtain⟨q,h1,h2⟩:=uW hx;rw[←h2];exact a1 q (by omega) h1
  rw[this]
theorem lA1 (y:List Int) (hy:y.length≤1000000):oD.f y=some (y.mergeSort fun x y=>decide (x≤y),()):=by rw[oD.f_sem];show(bif decide (List.length y≤mC)then some (y.mergeSort fun x y=>decide (x≤y),())else none)=_;rw[dp (by simp only[mC];omega),cond_true]
theorem oV (y:List Int) (hy:y.length≤1000000):iC.f y=some (y,()):=by rw[iC.f_sem];show(bif decide (List.length y≤mC)then some (y,())else none)=_;rw[dp (by simp only[mC];omega),cond_true]
theorem tA1 (y:List Int) (x:Int):x∈dds y↔x∈y:=by
 cases y with
 | nil=>exact Iff.rfl
 | cons a r=>
  show x∈a::dd a r↔_;rw[sW1,sW1];have:=xO1 r a x;exact⟨fun h=>(this.1 h.symm).symm,fun h=>(this.2 h.symm).symm⟩
theorem sY (y:List Int) (h:y.Pairwise (· ≤ ·)):Rise (dds y):=by
 cases y with
 | nil=>exact List.Pairwise.nil
 | cons a r=>exact rD1 r a h
theorem iA1 (y:List Int):(y.mergeSort fun x y=>decide (x≤y)).Pairwise (· ≤ ·):=
 (List.pairwise_mergeSort (le:=fun x y:Int=>decide (x≤y)) (fun a b c h1 h2=>by simp at *;omega) (fun a b=>by simp;omega) y).imp fun h=>of_decide_eq_true h
theorem bU :∀(l:List Int) (p:Int),(dd p l).length≤l.length
 | [],_=>wW1 _
 | a::l,p=>by unfold dd;have:=bU l a;split <;> simp <;> omega
theorem sA1 (y:List Int):(dds y).length≤y.length:=by
 cases y with
 | nil=>exact wW1 _
 | cons a r=>exact Nat.succ_le_succ (bU r a)
noncomputable def locL (l da ex:List Int) (e:Int):List Int:=(dds ((l++da).mergeSort fun x y=>decide (x≤y))).filter (zL ex e)
theorem pC1 {l da ex:List Int} {e x:Int}:x∈locL l da ex e↔(x∈l∨x∈da)∧x∉ex∧x<e:=by unfold locL zL;rw[dZ1,tA1,List.mem_mergeSort,bX1];simp
theorem uX (l da ex:List Int) (e:Int):Rise (locL l da ex e):=List.Pairwise.filter _ (sY _ (iA1 _))
noncomputable def locE (l da ex:List Int) (e:Int):Option (List Int×Int×Unit):=if((locL l da ex e).length:Int)>4096 then some ([],10,())else some (locL l da ex e,0,())
theorem eR (hx:Rise ex) (hl:ex.length≤1000000) (l:List Int) (h1:l.length≤400000) (h2:da.length≤400000):
  zB.l1 l (z,st,du,rc,(f,iv,ct,un,wk,en,mo,we,yd,md,dy,ho,mi,se,po,()),da,ex,()) e=locE l da ex e∧zB.l1a (z,st,du,rc,(f,iv,ct,un,wk,en,mo,we,yd,md,dy,ho,mi,se,po,()),da,ex,()) e l=locE l da ex e:=by
 have hlim:mC=17179869184:=rfl;have hs:=lA1 (l++da) (by rw[rW1];omega);have hc:=gY ((l++da).mergeSort fun x y=>decide (x≤y)) (by rw[List.length_mergeSort,rW1];omega);have hdl:=sA1 ((l++da).mergeSort fun x y=>decide (x≤y));rw[List.length_mergeSort,rW1]at hdl;have hd:=pM1 z st du rc f iv ct un wk en mo we yd md dy ho mi se po da ex e hx hl (dds ((l++da).mergeSort fun x y=>decide (x≤y))) (by omega);have hk:=oV l (by omega)
 have fin:(bif decide (((locL l da ex e).length:Int)>4096)then(some (([]:List Int),(10:Int),()))else(some (locL l da ex e,0,())))=locE l da ex e:=by
  unfold locE;by_cases c:((locL l da ex e).length:Int)>4096
  ·rw[dp c,if_pos c];rfl
  ·rw[dn c,if_neg c];rfl
 rw[zB.l1_eq,zB.l1a_eq,hk];dsimp only;simp only[nW1];rw[dp (by omega),cond_true,hs];simp only[nW1];rw[hc];simp only[nW1];rw[hd];exact⟨fin,fin⟩
end
theorem gT1 :zB.f (0,1767603600,3600,true,r0,[],[],()) 1772496000=some ([1767603600,1768208400],0,()):=by
 rw[zB.f_eq,ex_m];dsimp only;simp only[nW1,xW1,cond_false,cond_true];rw[ex_l];simp only[nW1];have h:=(eR 0 1767603600 3600 true 3 1 2 0 0 false [] [] [] [] [] [] [] [] [] [] [] 1772496000 List.Pairwise.nil (by simp) [1767603600,1768208400] (by simp) (by simp)).1;have hL:locL [1767603600,1768208400] [] [] 1772496000=[1767603600,1768208400]:=by
  refine cL (uX _ _ _ _) (by unfold Rise;simp) fun x=>?_
  rw[pC1];simp;omega
 unfold locE at h;rw[hL,if_neg (by simp)]at h;exact h
theorem rL1 :gC.f (0,1767603600,3600,true,r0,[],[],()) [(3600,[],[],0,())] 1772323200=some ([(1767600000,1767603600,()),(1768204800,1768208400,())],0,()):=by
 let U:Int→Int:=fun t=>t-3600
 have hU:okU (([(3600,[],[],0,())]:List Zn).getD (0:Int).toNat zZ) U [1767603600,1768208400]:=by
  intro t ht;simp only[sW1,List.not_mem_nil,or_false]at ht;rcases ht with rfl | rfl
  ·exact⟨fV1,by decide,by decide⟩
  ·exact⟨pU1,by decide,by decide⟩
 obtain⟨r,h1,h2,h3⟩:=vG1 [(3600,[],[],0,())] 1772323200 [1767603600,1768208400] U (0,1767603600,3600,true,r0,[],[],()) (by simp) (by simp) (by simp) hU;have hs:spF U 3600 1772323200 [1767603600,1768208400]=[(1767600000,1767603600,()),(1768204800,1768208400,())]:=by decide
 have h1:r.Perm [(1767600000,1767603600,()),(1768204800,1768208400,())]:=by rw[←hs];exact h1
 have hr:r=[(1767600000,1767603600,()),(1768204800,1768208400,())]:=by
  have hl:=h1.length_eq
  match r,hl with
  | [a,b],_=>
   have ha:=h1.mem_iff.1 (show a∈[a,b] by simp);have hb:=h1.mem_iff.1 (show b∈[a,b] by simp);have hab:=(gY1.1 h2).1 b (by simp);have q1:=h1.mem_iff.2 (show((1767600000,1767603600,()):Sp)∈_ by simp);have q2:=h1.mem_iff.2 (show((1768204800,1768208400,()):Sp)∈_ by simp);simp only[sW1,List.not_mem_nil,or_false]at ha hb q1 q2;rcases ha with rfl | rfl <;> rcases hb with rfl | rfl
   ·simp at q2
   ·rfl
   ·simp at hab
   ·simp at q1
 subst hr;rw[gC.f_eq,ex_m];dsimp only;simp only[nW1,xW1,cond_false];rw[show rW.f (([(3600,[],[],0,())]:List Zn).getD (0:Int).toNat (0,[],[],0,()))=some (true,())from ex_z,qU1,dV1];simp(disch:=omega)only[ss,gC.l1_eq,hX1,qY1];rw[show(1772323200+172800:Int)=1772496000 from rfl,gT1];simp(disch:=omega)only[ss];rw[show(([1767603600,1768208400]:List Int).length:Int)=((([1767603600,1768208400]:List Int).length:Nat):Int)from rfl];refine Eq.trans h3 ?_;decide
theorem pK :fE.f=some (true,()):=by rw[fE.f_eq,ex_p,jW1];simp only[nW1,hX1,qY1];rw[rL1,ex_a,ex_b];simp only[nW1];rw[show w6 (1767600000+3600)=1767603600 by rw[wr (by omega) (by omega)];rfl,show w6 (1768204800+3600)=1768208400 by rw[wr (by omega) (by omega)];rfl,eN1 _ _ (by simp)];simp(disch:=omega)only[ss]
theorem sT {l:List Int} (h:oS l):Rise l:=kC1 fun j h0 hj=>(tM h).2.1 j hj h0
noncomputable def iQ (m:Mt) (e:Int):List Int:=if m.2.2.2.1=true then LS m.2.2.2.2.1 m.2.1 e else [m.2.1]
noncomputable def allL (m:Mt) (e:Int):List Int:=locL (iQ m e) m.2.2.2.2.2.1 m.2.2.2.2.2.2.1 e
theorem cW {m:Mt} {e x:Int}:x∈allL m e↔(x∈iQ m e∨x∈m.2.2.2.2.2.1)∧x∉m.2.2.2.2.2.2.1∧x<e:=pC1
theorem wQ (m:Mt) (e:Int):Rise (allL m e):=uX _ _ _ _
theorem fZ (m:Mt) (hs:uO m) (e:Int):∃L cd,zB.f m e=some (L,cd,())∧(¬cd=0→L=[]) ∧
  (cd=0→mayM m∧L=allL m e∧L.length≤4096∧(m.2.2.2.1=true→okE m.2.1 e))∧(¬mayM m→cd=1):=by
 obtain⟨b,hb,hb2⟩:=uI1 m hs;by_cases hM:mayM m
 ·have hb1:b=true:=hb2.2 hM;subst hb1;obtain⟨z,st,du,rc,⟨f,iv,ct,un,wk,en,mo,we,yd,md,dy,ho,mi,se,po,⟨⟩⟩,da,ex,⟨⟩⟩:=m;have hM0:=hM;obtain⟨m1,m2,m3,m4,m5,m6,m7,m8,m9⟩:=hM;obtain⟨s1,s2,s3⟩:=hs;dsimp only at s1 s2 s3 m1 m2 m3 m4 m5 m6 m7 m8 m9;have hda:=(tM m6).1;have hex:=(tM m7).1;have hrx:=sT m7;rw[zB.f_eq,hb];dsimp only;simp only[nW1,xW1,cond_false];have fin:∀l:List Int,l.length≤4096→l=iQ (z,st,du,rc,(f,iv,ct,un,wk,en,mo,we,yd,md,dy,ho,mi,se,po,()),da,ex,()) e→(rc=true→okE st e) → ∃L cd,locE l da ex e=some (L,cd,())∧(¬cd=0→L=[]) ∧
    (cd=0→mayM (z,st,du,rc,(f,iv,ct,un,wk,en,mo,we,yd,md,dy,ho,mi,se,po,()),da,ex,())∧L=allL (z,st,du,rc,(f,iv,ct,un,wk,en,mo,we,yd,md,dy,ho,mi,se,po,()),da,ex,()) e∧L.length≤4096∧(rc=true→okE st e))∧(¬mayM (z,st,du,rc,(f,iv,ct,un,wk,en,mo,we,yd,md,dy,ho,mi,se,po,()),da,ex,())→cd=1):=by
   intro l hl hlb hok;unfold locE;by_cases c:((locL l da ex e).length:Int)>4096
   ·rw[if_pos c];exact⟨_,_,rfl,fun _=>rfl,fun q=>by omega,fun q=>absurd hM0 q⟩
   ·rw[if_neg c];exact⟨_,_,rfl,fun q=>absurd rfl q,fun _=>⟨hM0,by unfold allL;rw[←hlb],by omega,hok⟩,fun q=>absurd hM0 q⟩
  cases rc with
  | false=>
   rw[cond_false,(eR z st du false f iv ct un wk en mo we yd md dy ho mi se po da ex e hrx (by omega) [st] (by simp) (by omega)).2];exact fin [st] (by simp) (by unfold iQ;rw[if_neg (by simp)]) fun q=>by cases q
  | true=>
   obtain⟨L,cd,h1,h2,h3,_⟩:=tM1 (f,iv,ct,un,wk,en,mo,we,yd,md,dy,ho,mi,se,po,()) s1 st e 4096 (by omega) (by omega);rw[cond_true,h1];simp only[nW1];by_cases c:cd=0
   ·obtain⟨_,g2,g3,g4⟩:=h3 c;rw[dp c,xW1,cond_false,(eR z st du true f iv ct un wk en mo we yd md dy ho mi se po da ex e hrx (by omega) L (by omega) (by omega)).1];obtain⟨L',cd',q1,q2,q3,q4⟩:=fin L (by omega) (by unfold iQ;rw[if_pos rfl];exact g3) fun _=>g2
    exact⟨L',cd',q1,q2,fun q=>⟨(q3 q).1,(q3 q).2.1,(q3 q).2.2.1,fun _=>(q3 q).2.2.2 rfl⟩,q4⟩
   ·rw[dn c,xX1,cond_true];exact⟨_,_,rfl,fun _=>rfl,fun q=>absurd q c,fun q=>absurd hM0 q⟩
 ·have hb1:b=false:=by
   cases b with
   | true=>exact absurd (hb2.1 rfl) hM
   | false=>rfl
  rw[zB.f_eq,hb,hb1];exact⟨[],1,rfl,fun _=>rfl,fun q=>by omega,fun _=>rfl⟩
theorem uQ1 (m:Mt) (hs:uO m) (e:Int):∃b,fC.f m e=some (b,()):=by
 have l1t:fC.l1 e true m=some (true,()):=by rw[fC.l1_eq,cond_true]
 rw[fC.f_eq]
 cases m.2.2.2.1 with
 | false=>exact⟨_,l1t⟩
 | true=>
  obtain⟨b,hb⟩:=aQ m.2.2.2.2.1 hs.1;have hv:aA.f m.2.2.2.2.1=some (b,()):=by rw[←wC1 _ hs.1];exact hb
  rw[xW1,cond_false,hv];simp only[nW1]
  cases b with
  | false=>exact⟨_,l1t⟩
  | true=>
   rw[xW1,cond_false,(cS m.2.1).2];simp only[nW1];by_cases c:inT m.2.1
   ·rw[dp c,xW1,cond_false,(cS e).2];simp only[nW1];by_cases c2:inT e
    ·rw[dp c2,xW1,fC.l1_eq,cond_false];obtain⟨k,hk⟩:=sG1 m.2.2.2.2.1 m.2.1 (w6 (w6 (Int.tdiv (w6 (e-m.2.1)) 86400)+3)) hs.1;rw[hk];exact⟨_,rfl⟩
    ·rw[dn c2];exact⟨_,l1t⟩
   ·rw[dn c];exact⟨_,l1t⟩
theorem kN :∀{a b:List Int},aY a→aY b→(∀x,x∈a↔x∈b)→a=b
 | [],[],_,_,_=>rfl
 | [],y::b,_,_,h=>by have:=(h y).2 qW1;cases this
 | x::a,[],_,_,h=>by have:=(h x).1 qW1;cases this
 | x::a,y::b,ha,hb,h=>by
  have ha:=gY1.1 ha;have hb:=gY1.1 hb;have e:x=y:=by
   have h1:=(h x).1 qW1;have h2:=(h y).2 qW1;rcases sW1.1 h1 with h1 | h1
   ·exact h1
   ·rcases sW1.1 h2 with h2 | h2
    ·exact h2.symm
    ·have:=hb.1 x h1;have:=ha.1 y h2;omega
  subst e;rw[kN ha.2 hb.2 fun z=>?_];have h3:=h z;simp only[sW1]at h3;constructor
  ·intro hz;rcases h3.1 (.inr hz)with h4 | h4
   ·have:=ha.1 z hz;omega
   ·exact h4
  ·intro hz;rcases h3.2 (.inr hz)with h4 | h4
   ·have:=hb.1 z hz;omega
   ·exact h4
theorem cA1 (a:List Int) (ha:a.length≤1000000):cD.f a a=some (true,()):=by
 have key:∀(k i:Nat),a.length-i=k→i≤a.length→cD.l1 a a i=some (true,()):=by
  intro k
  induction k with
  | zero=>
   intro i hk hi;rw[cD.l1_eq];simp(disch:=omega)only[ss]
  | succ k ih=>
   intro i hk hi;rw[cD.l1_eq];simp(disch:=omega)only[ss];exact ih (i+1) (by omega) (by omega)
 rw[cD.f_eq];have:=key _ 0 rfl (uW1 _);rw[show((0:Nat):Int)=0 from rfl]at this;simp(disch:=omega)only[ss,this]
theorem aL1 (l:List Int) (i:Nat) (hi:i<l.length) (hl:l.length≤1000000) (y:List Int) (hy:y.length≤1000000):∀(k q:Nat),y.length-q=k→q≤y.length→(∀j,j<q→y.getD j 0<l.getD i 0) →
  ∃q':Nat,q'≤y.length∧gA.l2 l i q y=gA.l4 l i q' y∧(∀j,j<q'→y.getD j 0<l.getD i 0)∧(q'<y.length→l.getD i 0≤y.getD q' 0):=by
 intro k
 induction k with
 | zero=>
  intro q hk hq h;refine⟨q,hq,?_,h,fun h=>by omega⟩;rw[gA.l2_eq];simp(disch:=omega)only[ss,gA.l3_eq]
 | succ k ih=>
  intro q hk hq h;rw[gA.l2_eq];by_cases hc:y.getD q 0<l.getD i 0
  ·simp(disch:=omega)only[ss,gA.l3_eq];refine ih (q+1) (by omega) (by omega) fun j hj=>?_
   by_cases e:j=q
   ·subst e;exact hc
   ·exact h j (by omega)
  ·simp(disch:=omega)only[ss,gA.l3_eq];exact⟨q,hq,rfl,h,fun _=>by omega⟩
theorem cK1 (l:List Int) (hl:l.length≤1000000):∀(k i:Nat) (y:List Int),l.length-i=k→i≤l.length→y.length≤i→aY y →
  ∃r,gA.l1 l i y=some (r,())∧aY r ∧ ∀x,x∈r↔x∈y∨x∈l.drop i:=by
 have hlim:mC=17179869184:=rfl;intro k
 induction k with
 | zero=>
  intro i y hk hi hy hr;have e:i=l.length:=by omega
  subst e;rw[gA.l1_eq];simp(disch:=omega)only[ss];exact⟨y,rfl,hr,fun x=>by simp⟩
 | succ k ih=>
  intro i y hk hi hy hr;have hlt:i<l.length:=by omega
  obtain⟨q,h1,h2,h3,h4⟩:=aL1 l i hlt hl y (by omega) _ 0 rfl (uW1 _) fun j hj=>by omega
  rw[gA.l1_eq];rw[jX1]at h2;simp(disch:=omega)only[ss,h2];rw[aC 0 hlt,gA.l4_eq];have ins:(q<y.length→l.getD i 0<y.getD q 0) → ∃r,gA.l6 l i q y=some (r,())∧aY r ∧ ∀x,x∈r↔x∈y∨x∈l.getD i 0::l.drop (i+1):=by
   intro h5;have hp:=gN1 y (l.getD i 0) q;have hs:aY (y.take q++([l.getD i 0]++y.drop q)):=by
    refine pF1 hr (fun a ha=>?_) fun a ha=>?_
    ·obtain⟨j,hj,e⟩:=List.getElem_of_mem ha;rw[zW1]at hj;rw[List.getElem_take]at e;have:=h3 j (by omega);rw[jK 0 (by omega),e]at this;exact this
    ·obtain⟨j,hj,e⟩:=List.getElem_of_mem ha;rw[eY1]at hj;rw[List.getElem_drop]at e;have a1:=h5 (by omega);rw[jK 0 (show q<y.length by omega)]at a1;by_cases hj0:j=0
     ·subst hj0;simp only[qZ1]at e;rw[←e];exact a1
     ·have:=List.pairwise_iff_getElem.1 hr q (q+j) (by omega) (by omega) (by omega);rw[e]at this;omega
   obtain⟨r,b1,b2,b3⟩:=ih (i+1) _ (by omega) (by omega) (by rw[hp.length_eq];simp;omega) hs;refine⟨r,?_,b2,fun x=>?_⟩
   ·rw[gA.l6_eq];simp(disch:=omega)only[ss,qX1,rW1,zW1,eY1,hlim];exact b1
   ·rw[b3,hp.mem_iff,sW1,sW1];constructor
    ·rintro((h | h) | h)
     ·exact .inr (.inl h)
     ·exact .inl h
     ·exact .inr (.inr h)
    ·rintro(h | h | h)
     ·exact .inl (.inr h)
     ·exact .inl (.inl h)
     ·exact .inr h
  by_cases hq:q<y.length
  ·by_cases he:y.getD q 0=l.getD i 0
   ·simp(disch:=omega)only[ss,gA.l5_eq];obtain⟨r,b1,b2,b3⟩:=ih (i+1) y (by omega) (by omega) (by omega) hr;refine⟨r,b1,b2,fun x=>?_⟩;have hm:l.getD i 0∈y:=by rw[←he];exact xZ 0 hq
    rw[b3,sW1];constructor
    ·rintro(h | h)
     ·exact .inl h
     ·exact .inr (.inr h)
    ·rintro(h | h | h)
     ·exact .inl h
     ·exact .inl (h ▸ hm)
     ·exact .inr h
   ·simp(disch:=omega)only[ss,gA.l5_eq];exact ins fun h=>by have:=h4 h;omega
  ·simp(disch:=omega)only[ss,gA.l5_eq];exact ins fun h=>by omega
theorem rJ (l:List Int) (hl:l.length≤1000000):∃r,gA.f l=some (r,())∧aY r ∧ ∀x,x∈r↔x∈l:=by obtain⟨r,h1,h2,h3⟩:=cK1 l hl _ 0 [] rfl (uW1 _) (wW1 _) List.Pairwise.nil;refine⟨r,?_,h2,fun x=>by rw[h3];simp⟩;rw[gA.f_eq];exact h1
theorem bO :∀{A L:List Int},A.Pairwise (· < ·)→(∀x,x∈A→x∈L)→A.length≤L.length
 | [],_,_,_=>uW1 _
 | a::A,L,h,hs=>by
  rw[gY1]at h;have ha:=hs a (by simp)
  have ih:=bO (L:=L.erase a) h.2 fun x hx=>by have:=h.1 x hx;exact(List.mem_erase_of_ne (by omega)).2 (hs x (pW1 _ hx))
  rw[List.length_erase_of_mem ha]at ih;have:=List.length_pos_of_mem ha;rw[hX1];omega
theorem gI1 (m:Mt) (hs:uO m) (e:Int) (L:List Int) (h:zB.f m e=some (L,0,())):mayM m∧L=allL m e∧L.length≤4096 ∧
  (m.2.2.2.1=true→uD.f m.2.2.2.2.1 m.2.1 e 4096=some (LS m.2.2.2.2.1 m.2.1 e,0,())∧(LS m.2.2.2.2.1 m.2.1 e).length≤4096∧okE m.2.1 e):=by
 obtain⟨L',cd,h1,h2,h3,h4⟩:=fZ m hs e;have h0:=h1;rw[h]at h0;obtain⟨e4,h0⟩:=Prod.mk.inj (fX1 h0);obtain⟨e5,_⟩:=Prod.mk.inj h0;subst e4 e5;obtain⟨hM,e1,e2,e3⟩:=h3 rfl;refine⟨hM,e1,e2,fun hr=>?_⟩;have hok:=e3 hr;have hM0:=hM;obtain⟨z,st,du,rc,⟨f,iv,ct,un,wk,en,mo,we,yd,md,dy,ho,mi,se,po,⟨⟩⟩,da,ex,⟨⟩⟩:=m;obtain⟨m1,m2,m3,m4,m5,m6,m7,m8,m9⟩:=hM;dsimp only at hr m8 hok ⊢;subst hr;have hl:=kI1 hs.1 (m8 rfl) hok 4096 (by omega) (by omega);by_cases c:((LS (f,iv,ct,un,wk,en,mo,we,yd,md,dy,ho,mi,se,po,()) st e).length:Int)>4096
 ·rw[if_pos c]at hl;obtain⟨b,hb,hb2⟩:=uI1 _ hs;rw[hb2.2 hM0]at hb;rw[zB.f_eq,hb]at h1;dsimp only at h1;simp only[nW1,xW1,cond_false,cond_true]at h1;rw[hl]at h1;simp only[nW1]at h1;rw[dn (show ¬(10:Int)=0 by decide),xX1,cond_true]at h1;have:=congrArg Prod.fst (Prod.mk.inj (fX1 h1)).2;exact absurd this (by decide)
 ·rw[if_neg c]at hl;exact⟨hl,Int.ofNat_le.1 (Int.not_lt.1 c),hok⟩
theorem eD1 (z st du:Int) (rc:Bool) (f iv ct un wk:Int) (en:Bool) (mo we yd md:List Int) (dy:List Dy) (ho mi se po da ex:List Int) (e:Int)
  (hs:uO (z,st,du,rc,(f,iv,ct,un,wk,en,mo,we,yd,md,dy,ho,mi,se,po,()),da,ex,())) (hM:mayM (z,st,du,rc,(f,iv,ct,un,wk,en,mo,we,yd,md,dy,ho,mi,se,po,()),da,ex,()))
  (hb:rc=true→uD.f (f,iv,ct,un,wk,en,mo,we,yd,md,dy,ho,mi,se,po,()) st e 4096=some (LS (f,iv,ct,un,wk,en,mo,we,yd,md,dy,ho,mi,se,po,()) st e,0,())∧(LS (f,iv,ct,un,wk,en,mo,we,yd,md,dy,ho,mi,se,po,()) st e).length≤4096)
  (hl:(allL (z,st,du,rc,(f,iv,ct,un,wk,en,mo,we,yd,md,dy,ho,mi,se,po,()),da,ex,()) e).length≤4096):
  zB.f (z,st,du,rc,(f,iv,ct,un,wk,en,mo,we,yd,md,dy,ho,mi,se,po,()),da,ex,()) e=some (allL (z,st,du,rc,(f,iv,ct,un,wk,en,mo,we,yd,md,dy,ho,mi,se,po,()),da,ex,()) e,0,()):=by
 obtain⟨b,hbm,hb2⟩:=uI1 _ hs;rw[hb2.2 hM]at hbm;obtain⟨m1,m2,m3,m4,m5,m6,m7,m8,m9⟩:=hM;dsimp only at m6 m7;have hda:=(tM m6).1;have hex:=(tM m7).1;have hrx:=sT m7;rw[zB.f_eq,hbm];dsimp only;simp only[nW1,xW1,cond_false]
 have fin:∀l:List Int,l=iQ (z,st,du,rc,(f,iv,ct,un,wk,en,mo,we,yd,md,dy,ho,mi,se,po,()),da,ex,()) e→locE l da ex e=some (allL (z,st,du,rc,(f,iv,ct,un,wk,en,mo,we,yd,md,dy,ho,mi,se,po,()),da,ex,()) e,0,()):=fun l hlb=>by
  have e0:locL l da ex e=allL (z,st,du,rc,(f,iv,ct,un,wk,en,mo,we,yd,md,dy,ho,mi,se,po,()),da,ex,()) e:=by unfold allL;rw[←hlb]
  unfold locE;rw[e0,if_neg (by omega)]
 cases rc with
 | false=>
  rw[cond_false,(eR z st du false f iv ct un wk en mo we yd md dy ho mi se po da ex e hrx (by omega) [st] (by simp) (by omega)).2];exact fin [st] (by unfold iQ;rw[if_neg (by simp)])
 | true=>
  obtain⟨g1,g2⟩:=hb rfl;rw[cond_true,g1];simp only[nW1];rw[decide_true,xW1,cond_false,(eR z st du true f iv ct un wk en mo we yd md dy ho mi se po da ex e hrx (by omega) _ (by omega) (by omega)).1];exact fin _ (by unfold iQ;rw[if_pos rfl])
theorem uR1 (m:Mt) (h:nD.f m=some (true,())):m.2.2.2.2.2.1.length≤400∧m.2.2.2.2.2.2.1.length≤400:=by
 obtain⟨b,h1,h2⟩:=qD1 m.2.2.2.2.1;rw[nD.f_eq,h1]at h;simp only[nW1]at h
 cases b with
 | false=>cases h
 | true=>
  rw[cond_true]at h;by_cases c:(m.2.2.2.2.2.1.length:Int)≤400
  ·rw[dp c,cond_true]at h;have:=congrArg Prod.fst (fX1 h);rw[decide_eq_true_eq]at this;omega
  ·rw[dn c]at h;cases h
theorem qL1 (t:Int) (L A B:List Int) (out:Bool) (hL:L.Pairwise (· < ·)) (hA:A.Pairwise (· < ·)) (hB:B.Pairwise (· < ·)) (lL:L.length≤400000) (lA:A.length≤400001) (lB:B.length≤400000)
  (h1:t∈A↔out=false) (h2:∀x,x∈B∨x=t↔x∈L∨x=t) (h3:out=false → ∀x,x∈A↔x∈L∨x=t):iA.l4 t L A B out=some (true,()):=by
 have hlim:mC=17179869184:=rfl;obtain⟨R1,r1,r2,r3⟩:=rJ (B++[t]) (by simp;omega);obtain⟨R2,q1,q2,q3⟩:=rJ (L++[t]) (by simp;omega)
 have e1:R1=R2:=kN r2 q2 fun x=>by rw[r3,q3,bX1,bX1,oX1];exact h2 x
 subst e1;have lR:R1.length≤1000000:=by
  have:=bO (L:=B++[t]) r2 fun x hx=>(r3 x).1 hx
  simp at this;omega
 have hh:(!(decide (t∈A)==out))=true:=by
  cases out with
  | true=>rw[dn (fun q=>absurd (h1.1 q) (by simp))];rfl
  | false=>rw[dp (h1.2 rfl)];rfl
 rw[iA.l4_eq,pK,jX A t (by omega)];simp only[nW1,cond_true];rw[hh,cond_true,qE B (by omega)];simp only[nW1];rw[dp (show B.length+[t].length≤mC by rw[qX1,hlim];omega),cond_true,r1,qE L (by omega)];simp only[nW1];rw[dp (show L.length+[t].length≤mC by rw[qX1,hlim];omega),cond_true,q1];simp only[nW1];rw[cA1 R1 lR];simp only[nW1,cond_true]
 cases out with
 | true=>rfl
 | false=>
  have e2:A=R1:=kN hA r2 fun x=>by rw[h3 rfl,q3,bX1,oX1]
  rw[cond_false,e2,cA1 R1 lR];rfl
theorem iT (m:Mt) (t e:Int):iA.f m t e=some (true,()):=by
 have hlim:mC=17179869184:=rfl;have l1t:iA.l1 t e true m=some (true,()):=by rw[iA.l1_eq,cond_true,pK];rfl
 obtain⟨b,hb,hsm⟩:=lU1 m;rw[iA.f_eq,pK,hb];simp only[nW1,xW1,cond_false]
 cases b with
 | false=>rw[xX1,cond_true,l1t]
 | true=>
 have hs:=hsm rfl;have hfew:=uR1 m hb;obtain⟨g,hg⟩:=uQ1 m hs e;rw[xW1,cond_false,hg];simp only[nW1]
 cases g with
 | false=>rw[xX1,l1t]
 | true=>
 rw[xW1,iA.l1_eq,cond_false];obtain⟨L,cd,hL,_,_,_⟩:=fZ m hs e;have hcopy:tD.f m=some ((m.1,m.2.1,m.2.2.1,m.2.2.2.1,m.2.2.2.2.1.1,m.2.2.2.2.1.2.1,m.2.2.2.2.1.2.2.1,m.2.2.2.2.1.2.2.2.1,m.2.2.2.2.1.2.2.2.2.1,m.2.2.2.2.1.2.2.2.2.2.1,m.2.2.2.2.1.2.2.2.2.2.2.1,m.2.2.2.2.1.2.2.2.2.2.2.2.1,m.2.2.2.2.1.2.2.2.2.2.2.2.2.1,m.2.2.2.2.1.2.2.2.2.2.2.2.2.2.1,m.2.2.2.2.1.2.2.2.2.2.2.2.2.2.2.1,m.2.2.2.2.1.2.2.2.2.2.2.2.2.2.2.2.1,m.2.2.2.2.1.2.2.2.2.2.2.2.2.2.2.2.2.1,m.2.2.2.2.1.2.2.2.2.2.2.2.2.2.2.2.2.2.1,m.2.2.2.2.1.2.2.2.2.2.2.2.2.2.2.2.2.2.2.1,m.2.2.2.2.2.1,m.2.2.2.2.2.2.1,()),()):=by rw[tD.f_eq,rH1 _ hs.1,qE _ hs.2.1,qE _ hs.2.2];rfl
 rw[hL,hcopy];obtain⟨z,st,du,rc,⟨f,iv,ct,un,wk,en,mo,we,yd,md,dy,ho,mi,se,po,⟨⟩⟩,da,ex,⟨⟩⟩:=m;dsimp only at hfew;obtain⟨D,d1,d2,d3⟩:=rJ (da++[t]) (by simp;omega);obtain⟨X,x1,x2,x3⟩:=rJ (ex++[t]) (by simp;omega);have lD:D.length≤500:=by
  have:=bO (L:=da++[t]) d2 fun x hx=>(d3 x).1 hx
  simp at this;omega
 have lX:X.length≤500:=by
  have:=bO (L:=ex++[t]) x2 fun x hx=>(x3 x).1 hx
  simp at this;omega
 have dm:∀x,x∈D↔x∈da∨x=t:=fun x=>by rw[d3,bX1,oX1]
 have xm:∀x,x∈X↔x∈ex∨x=t:=fun x=>by rw[x3,bX1,oX1]
 simp only[nW1];rw[dp (show da.length+[t].length≤mC by rw[qX1,hlim];omega),cond_true,d1];simp only[nW1];rw[dp (show ex.length+[t].length≤mC by rw[qX1,hlim];omega),cond_true,x1];simp only[nW1];have l2t:iA.l2 t e L true (z,st,du,rc,(f,iv,ct,un,wk,en,mo,we,yd,md,dy,ho,mi,se,po,()),da,ex,()) z st du rc f iv ct un wk en D mo we yd md dy ho mi se po ex z st du rc f iv ct un wk en X mo we yd md dy ho mi se po da=some (true,()):=by rw[iA.l2_eq,cond_true,pK];rfl
 by_cases c0:cd=0
 ·subst c0;rw[dp (show(0:Int)=0 from rfl),xW1,cond_false];have hsp:uO (z,st,du,rc,(f,iv,ct,un,wk,en,mo,we,yd,md,dy,ho,mi,se,po,()),D,ex,()):=⟨hs.1,by dsimp only;omega,hs.2.2⟩
  have hsq:uO (z,st,du,rc,(f,iv,ct,un,wk,en,mo,we,yd,md,dy,ho,mi,se,po,()),da,X,()):=⟨hs.1,hs.2.1,by dsimp only;omega⟩
  obtain⟨bp,p1,p2⟩:=uI1 _ hsp;obtain⟨bq,q1,q2⟩:=uI1 _ hsq;rw[p1];simp only[nW1]
  cases bp with
  | false=>rw[xX1,cond_true];exact l2t
  | true=>
  rw[xW1,cond_false,q1];simp only[nW1]
  cases bq with
  | false=>rw[xX1,cond_true];exact l2t
  | true=>
  rw[xW1,cond_false];by_cases c1:(L.length:Int)>4000
  ·rw[dp c1];exact l2t
  obtain⟨hM,eL,_,hbase⟩:=gI1 _ hs e L hL;dsimp only at hbase;have hb':=fun hr=>(⟨(hbase hr).1,(hbase hr).2.1⟩:_∧_)
  have rL:L.Pairwise (· < ·):=by rw[eL];exact wQ _ _
  have mL:∀x,x∈L↔(x∈iQ (z,st,du,rc,(f,iv,ct,un,wk,en,mo,we,yd,md,dy,ho,mi,se,po,()),da,ex,()) e∨x∈da)∧x∉ex∧x<e:=fun x=>by rw[eL];exact cW
  have mA:∀x,x∈allL (z,st,du,rc,(f,iv,ct,un,wk,en,mo,we,yd,md,dy,ho,mi,se,po,()),D,ex,()) e↔(x∈iQ (z,st,du,rc,(f,iv,ct,un,wk,en,mo,we,yd,md,dy,ho,mi,se,po,()),da,ex,()) e∨x∈da∨x=t)∧x∉ex∧x<e:=fun x=>by rw[←dm];exact cW
  have mB:∀x,x∈allL (z,st,du,rc,(f,iv,ct,un,wk,en,mo,we,yd,md,dy,ho,mi,se,po,()),da,X,()) e↔(x∈iQ (z,st,du,rc,(f,iv,ct,un,wk,en,mo,we,yd,md,dy,ho,mi,se,po,()),da,ex,()) e∨x∈da) ∧ ¬(x∈ex∨x=t)∧x<e:=fun x=>by rw[←xm];exact cW
  have rA:=wQ (z,st,du,rc,(f,iv,ct,un,wk,en,mo,we,yd,md,dy,ho,mi,se,po,()),D,ex,()) e;have rB:=wQ (z,st,du,rc,(f,iv,ct,un,wk,en,mo,we,yd,md,dy,ho,mi,se,po,()),da,X,()) e
  have lA:=bO (L:=t::L) rA fun x hx=>by
   obtain⟨h1,h2⟩:=(mA x).1 hx;rw[sW1,mL];rcases h1 with h1 | h1 | h1
   ·exact .inr ⟨.inl h1,h2⟩
   ·exact .inr ⟨.inr h1,h2⟩
   ·exact .inl h1
  have lB:=bO (L:=L) rB fun x hx=>by obtain⟨h1,h2,h3⟩:=(mB x).1 hx;exact(mL x).2 ⟨h1,fun q=>h2 (.inl q),h3⟩
  rw[hX1]at lA;have vA:=eD1 z st du rc f iv ct un wk en mo we yd md dy ho mi se po D ex e hsp (p2.1 rfl) hb' (by omega);have vB:=eD1 z st du rc f iv ct un wk en mo we yd md dy ho mi se po da X e hsq (q2.1 rfl) hb' (by omega);rw[dn c1,iA.l2_eq,cond_false,vA,vB];generalize allL (z,st,du,rc,(f,iv,ct,un,wk,en,mo,we,yd,md,dy,ho,mi,se,po,()),D,ex,()) e=A at mA rA lA;generalize allL (z,st,du,rc,(f,iv,ct,un,wk,en,mo,we,yd,md,dy,ho,mi,se,po,()),da,X,()) e=B at mB rB lB;have htB:t∉B:=fun q=>((mB t).1 q).2.1 (.inr rfl)
  simp only[nW1,decide_true,xW1,cond_false];rw[jX B t (by omega),dn htB];simp only[nW1]
  have hB:∀x,x∈B∨x=t↔x∈L∨x=t:=fun x=>by
   rw[mB,mL];by_cases c:x=t
   ·simp[c]
   ·simp[c]
  rw[iA.l3_eq,cond_false];dsimp only;rw[jX ex t (by omega)];simp only[nW1]
  have tail:∀out:Bool,(out=false↔t∉ex∧t<e)→iA.l4 t L A B out=some (true,()):=fun out ho=>by
   refine qL1 t L A B out rL rA rB (by omega) (by omega) (by omega) ?_ hB fun h0 x=>?_
   ·rw[mA,ho];exact⟨fun q=>q.2,fun q=>⟨.inr (.inr rfl),q⟩⟩
   ·rw[mA,mL];have h0:=ho.1 h0;constructor
    ·rintro⟨h1 | h1 | h1,h2⟩
     ·exact .inl ⟨.inl h1,h2⟩
     ·exact .inl ⟨.inr h1,h2⟩
     ·exact .inr h1
    ·rintro(⟨h1 | h1,h2⟩ | h1)
     ·exact⟨.inl h1,h2⟩
     ·exact⟨.inr (.inl h1),h2⟩
     ·subst h1;exact⟨.inr (.inr rfl),h0⟩
  by_cases c2:t∈ex
  ·rw[dp c2,cond_true];exact tail true ⟨(fun q=>by cases q),fun q=>absurd c2 q.1⟩
  ·rw[dn c2,cond_false];by_cases c3:t≥e
   ·rw[dp c3];exact tail true ⟨(fun q=>by cases q),fun q=>by omega⟩
   ·rw[dn c3];exact tail false ⟨fun _=>⟨c2,by omega⟩,fun _=>rfl⟩
 ·rw[dn c0,xX1,cond_true];exact l2t
end Go.GV.YtegmfagkklekaaaGreatDoor
