/-
Part of the words that the laws of this seat are proved with: no statement of its own, no conditions.
-/
import Derived.Test.YtegmfagkklekaaaGreatDoorY19
set_option linter.unusedVariables false
set_option linter.unusedSimpArgs false
namespace Go.GV.YtegmfagkklekaaaGreatDoor
open Go.Proofs
theorem mH1 (y m d h mi s:Int) (hh:0≤h∧h≤10000) (hm:0≤mi∧mi≤10000) (hs:0≤s∧s≤10000):∃t e,dD.f y m d h mi s=some (t,e,())∧jC.f y m d h mi s=some (t,e,()):=by
 obtain⟨h1,h2⟩:=wG1 y m d;rw[dD.f_eq,jC.f_eq,h1,h2]
 cases hv:kM y m d with
 | false=>
  refine⟨0,1,?_,?_⟩
  ·simp(disch:=omega)only[ss,uK2,if_false,dD.l1_eq]
  ·simp(disch:=omega)only[ss,uK2,if_false,jC.l1_eq]
 | true=>
  unfold kM at hv;simp only[tJ2,decide_eq_true_eq]at hv;obtain⟨⟨⟨h3,h4⟩,h5⟩,h6⟩:=hv;have hb:=iQ y m;have hfb:=jT y h3 (by omega);have hcb:=iN y m;generalize fst_ y+d-1+cum y m=n at *;have hn: -20000000≤n∧n≤20000000∨True:=.inr trivial;by_cases c1:h>23
  ·exact⟨0,1,by simp(disch:=omega)only[ss,if_true,dD.l1_eq],by simp(disch:=omega)only[ss,if_true,jC.l1_eq]⟩
  ·by_cases c2:mi>59
   ·exact⟨0,1,by simp(disch:=omega)only[ss,if_true,dD.l1_eq],by simp(disch:=omega)only[ss,if_true,jC.l1_eq]⟩
   ·by_cases c3:s>59
    ·exact⟨0,1,by simp(disch:=omega)only[ss,if_true,dD.l1_eq],by simp(disch:=omega)only[ss,if_true,jC.l1_eq]⟩
    ·refine⟨_,0,by simp(disch:=omega)only[ss,if_true,dD.l1_eq];rfl,?_⟩;simp(disch:=omega)only[ss,if_true,jC.l1_eq];rw[Int.mul_comm h 3600,Int.mul_comm mi 60]
theorem fJ :∀(l:List UInt8) (a:Nat),dval a l=a*10 ^ l.length+dval 0 l
 | [],a=>by show a=a*10 ^ 0+0;omega
 | c::l,a=>by
  show dval (10*a+(c.toNat-48)) l=_+dval (10*0+(c.toNat-48)) l;rw[Nat.mul_zero,yL2,fJ l (10*a+(c.toNat-48)),fJ l (c.toNat-48),yJ2,Nat.pow_succ,Nat.add_mul];have:a*(10 ^ l.length*10)=10*a*10 ^ l.length:=by rw[Nat.mul_comm (10 ^ l.length) 10,←Nat.mul_assoc,Nat.mul_comm a 10]
  omega
theorem pP (l:List UInt8) (h:∀c∈l,dig c):dval 0 l<10 ^ l.length:=by
 suffices g:∀(l:List UInt8) (a b:Nat),(∀c∈l,dig c)→a<b→dval a l<b*10 ^ l.length by have:=g l 0 1 h (by omega);omega
 intro l
 induction l with
 | nil=>intro a b _ h;show a<b*1;omega
 | cons c l ih=>
  intro a b hd hab;have hc:=hd c zJ2;unfold dig at hc;have:=ih (10*a+(c.toNat-48)) (10*b) (fun x hx=>hd x (wJ2 _ hx)) (by omega);show dval (10*a+(c.toNat-48)) l<_;rw[yJ2,Nat.pow_succ,Nat.mul_comm (10 ^ l.length) 10,←Nat.mul_assoc,Nat.mul_comm b 10];exact this
def digs (l:List UInt8):Prop:=∀c∈l,dig c
theorem u8w {c:UInt8} (h:dig c):IntKind.u8.wrap ((c.toNat:Int)-48)=((c.toNat-48:Nat):Int):=by unfold dig at h;rw[Go.IntWalk.u8_in _ ⟨by omega,by omega⟩];omega
theorem kR1 (s:List UInt8) (hs:s.length≤10):∀(k i v:Nat),s.length-i=k→i≤s.length→v<10 ^ i →
  (digs (s.drop i)→pB.l1 (mkS s) v s.length i=some (((dval v (s.drop i):Nat):Int),true,()))∧(¬digs (s.drop i)→pB.l1 (mkS s) v s.length i=some (0,false,())) ∧
  (digs (s.drop i)→lB.l1 (mkS s) v i=some (((dval v (s.drop i):Nat):Int),()))∧(¬digs (s.drop i)→lB.l1 (mkS s) v i=some (-1,())):=by
 intro k
 induction k with
 | zero=>
  intro i v hk hi hv;have e:i=s.length:=by omega
  subst e;rw[pB.l1_eq,lB.l1_eq,fL2];simp(disch:=omega)only[ss,szS];exact⟨fun _=>rfl,fun h=>absurd (fun c hc=>by cases hc) h,fun _=>rfl,fun h=>absurd (fun c hc=>by cases hc) h⟩
 | succ k ih=>
  intro i v hk hi hv;have hlt:i<s.length:=by omega
  have hbt:bt (mkS s) (i:Int)=((s.getD i 0).toNat:Int):=cI (mkS s) i;have hv2:v<10000000000:=dL2 hv (Nat.pow_le_pow_right (by omega) (show i≤10 by omega));have hc:=oF2 (s.getD i 0);rw[pB.l1_eq,lB.l1_eq,qC 0 hlt];by_cases hd:dig (s.getD i 0)
  ·have hd':=hd;unfold dig at hd';have hw:=u8w hd;have e2:(10:Int)*(v:Int)+((s.getD i 0).toNat-48:Nat)=((10*v+((s.getD i 0).toNat-48):Nat):Int):=by omega
   simp(disch:=omega)only[ss,szS,hbt,pB.l2_eq,lB.l2_eq,hw];rw[e2];obtain⟨h1,h2,h3,h4⟩:=ih (i+1) (10*v+((s.getD i 0).toNat-48)) (by omega) (by omega) (by rw[Nat.pow_succ];omega);have hq:digs (s.getD i 0::s.drop (i+1))↔digs (s.drop (i+1)):=⟨fun h c hc=>h c (wJ2 _ hc),fun h c hc=>(uJ2.1 hc).elim (fun e=>e ▸ hd) (h c)⟩
   rw[hq];exact⟨h1,h2,h3,h4⟩
  ·have hq:¬digs (s.getD i 0::s.drop (i+1)):=fun h=>hd (h _ zJ2)
   unfold dig at hd;by_cases c1:((s.getD i 0).toNat:Int)<48
   ·simp(disch:=omega)only[ss,szS,hbt,pB.l2_eq,lB.l2_eq];exact⟨fun h=>absurd h hq,fun _=>trivial,fun h=>absurd h hq,fun _=>trivial⟩
   ·simp(disch:=omega)only[ss,szS,hbt,pB.l2_eq,lB.l2_eq];exact⟨fun h=>absurd h hq,fun _=>trivial,fun h=>absurd h hq,fun _=>trivial⟩
theorem snum (s:List UInt8) (hs:s.length≤10):(digs s→pB.f (mkS s)=some (((dval 0 s:Nat):Int),true,()))∧(¬digs s→pB.f (mkS s)=some (0,false,())):=by have:=kR1 s hs _ 0 0 rfl (xJ2 _) (by decide);rw[fK2,oK2]at this;rw[pB.f_eq,szS];exact⟨this.1,this.2.1⟩
theorem vnum (s:List UInt8) (hs:s.length≤10):(digs s→lB.f (mkS s)=some (((dval 0 s:Nat):Int),()))∧(¬digs s→lB.f (mkS s)=some (-1,())):=by have:=kR1 s hs _ 0 0 rfl (xJ2 _) (by decide);rw[fK2,oK2]at this;rw[lB.f_eq];exact⟨this.2.2.1,this.2.2.2⟩
theorem iP1 (s:List UInt8) (hs:s.length≤10):∃n:Int,lB.f (mkS s)=some (n,())∧(digs s→n=(dval 0 s:Nat))∧(¬digs s→n = -1):=by
 by_cases h:digs s
 ·exact⟨_,(vnum s hs).1 h,fun _=>rfl,fun q=>absurd h q⟩
 ·exact⟨_,(vnum s hs).2 h,fun q=>absurd q h,fun _=>rfl⟩
theorem qM {a b:List UInt8}:digs (a++b)↔digs a∧digs b:=
 ⟨fun h=>⟨fun c hc=>h c (lK2 _ hc),fun c hc=>h c (pK2 _ hc)⟩,fun h c hc=>(gK2.1 hc).elim (h.1 c) (h.2 c)⟩
theorem ex_S (s:List UInt8) (a b:Nat):(mkS s).extract a b=mkS ((s.drop a).take (b-a)):=fI (by rw[hW1,B_mk,B_mk])
theorem len2 (y0 y1 y2 y3 y4 y5:Int) (h:y0<0∨y1<0∨y2<0∨y3<0∨y4<0∨y5<0):oB.l2 0 [y0,y1,y2,y3,y4,y5]=some (0,4,()):=by
 have step:∀(i:Nat) (hi:i<6),oB.l2 i [y0,y1,y2,y3,y4,y5]=bif decide ([y0,y1,y2,y3,y4,y5].getD i 0<0)then some (0,4,())else oB.l2 (i+1:Nat) [y0,y1,y2,y3,y4,y5]:=by
  intro i hi
  conv=>lhs;rw[oB.l2_eq]
  simp(disch:=omega)only[ss,yJ2,jK2];rfl
 have z:=step 0 (by omega);rw[fK2]at z;rw[z,step 1 (by omega),step 2 (by omega),step 3 (by omega),step 4 (by omega),step 5 (by omega)];simp only[List.getD_cons_zero,nN2];by_cases h0:y0<0
 ·simp(disch:=omega)only[ss]
 ·by_cases h1:y1<0
  ·simp(disch:=omega)only[ss]
  ·by_cases h2:y2<0
   ·simp(disch:=omega)only[ss]
   ·by_cases h3:y3<0
    ·simp(disch:=omega)only[ss]
    ·by_cases h4:y4<0
     ·simp(disch:=omega)only[ss]
     ·have h5:y5<0:=by omega
      simp(disch:=omega)only[ss]
theorem rI2 (y0 y1 y2 y3 y4 y5:Int) (h:¬(y0<0∨y1<0∨y2<0∨y3<0∨y4<0∨y5<0)):oB.l2 0 [y0,y1,y2,y3,y4,y5]=(jC.f y0 y1 y2 y3 y4 y5).bind fun t7=>some (t7.1,t7.2.1,()):=by
 have step:∀(i:Nat) (hi:i<6),oB.l2 i [y0,y1,y2,y3,y4,y5]=bif decide ([y0,y1,y2,y3,y4,y5].getD i 0<0)then some (0,4,())else oB.l2 (i+1:Nat) [y0,y1,y2,y3,y4,y5]:=by
  intro i hi
  conv=>lhs;rw[oB.l2_eq]
  simp(disch:=omega)only[ss,yJ2,jK2];rfl
 have z:=step 0 (by omega);rw[fK2]at z;rw[z,step 1 (by omega),step 2 (by omega),step 3 (by omega),step 4 (by omega),step 5 (by omega)];simp only[List.getD_cons_zero,nN2];simp(disch:=omega)only[ss];rw[oB.l2_eq];simp(disch:=omega)only[ss,yJ2,jK2];rfl
theorem iH (s:List UInt8) (hs:s.length≤1000000):∃t e,gB.f (mkS s)=some (t,e,())∧oB.f (mkS s)=some (t,e,()):=by
 rw[gB.f_eq,oB.f_eq];by_cases c1:(s.length:Int)<15
 ·exact⟨0,2,by simp(disch:=omega)only[ss,szS],by simp(disch:=omega)only[ss,szS]⟩
 ·by_cases c2:(s.length:Int)>15
  ·exact⟨0,4,by simp(disch:=omega)only[ss,szS,gB.l1_eq],by simp(disch:=omega)only[ss,szS,oB.l1_eq]⟩
  ·have hl:s.length=15:=by omega
   have hbt:bt (mkS s) 8=((s.getD 8 0).toNat:Int):=cI (mkS s) 8;by_cases c3:((s.getD 8 0).toNat:Int)=84
   ·simp(disch:=omega)only[ss,szS,hbt,gB.l1_eq,oB.l1_eq];have t4:(4:Int).toNat=4:=rfl;simp only[show Int.toNat 4=4 from rfl,show Int.toNat 6=6 from rfl,show Int.toNat 8=8 from rfl,show Int.toNat 9=9 from rfl,show Int.toNat 11=11 from rfl,show Int.toNat 13=13 from rfl,show Int.toNat 15=15 from rfl,hl,ex_S,Nat.sub_zero,oK2,Nat.reduceSub];have L:∀a b:Nat,a+b≤15→((s.drop a).take b).length=b:=fun a b h=>by rw[dK2,sK2];omega
    have sp1:s.take 8=s.take 4++((s.drop 4).take 2++(s.drop 6).take 2):=by
     have h1:s.take 8=s.take 4++(s.drop 4).take 4:=by rw[←List.take_add]
     have h2:(s.drop 4).take 4=(s.drop 4).take 2++(s.drop 6).take 2:=by rw[show(4:Nat)=2+2 from rfl,List.take_add,nM2]
     rw[h1,h2]
    have sp2:(s.drop 9).take 6=(s.drop 9).take 2++((s.drop 11).take 2++(s.drop 13).take 2):=by
     have h1:(s.drop 9).take 6=(s.drop 9).take 2++(s.drop 11).take 4:=by rw[show(6:Nat)=2+4 from rfl,List.take_add,nM2]
     have h2:(s.drop 11).take 4=(s.drop 11).take 2++(s.drop 13).take 2:=by rw[show(4:Nat)=2+2 from rfl,List.take_add,nM2]
     rw[h1,h2]
    have L1:(s.take 4).length=4:=by rw[dK2];omega
    have L2:=L 4 2 (by omega);have L3:=L 6 2 (by omega);have L4:=L 9 2 (by omega);have L5:=L 11 2 (by omega);have L6:=L 13 2 (by omega);obtain⟨n1,e1,p1,q1⟩:=iP1 (s.take 4) (by omega);obtain⟨n2,e2,p2,q2⟩:=iP1 ((s.drop 4).take 2) (by omega);obtain⟨n3,e3,p3,q3⟩:=iP1 ((s.drop 6).take 2) (by omega);obtain⟨n4,e4,p4,q4⟩:=iP1 ((s.drop 9).take 2) (by omega);obtain⟨n5,e5,p5,q5⟩:=iP1 ((s.drop 11).take 2) (by omega);obtain⟨n6,e6,p6,q6⟩:=iP1 ((s.drop 13).take 2) (by omega);have hA:=snum (s.take 8) (by rw[dK2];omega);have hB:=snum ((s.drop 9).take 6) (by rw[dK2];omega);rw[sp1]at hA;rw[sp2]at hB;rw[qM,qM]at hA hB;rw[sp1,sp2];simp only[e1,e2,e3,e4,e5,e6,qJ2];generalize s.take 4=w1 at *;generalize (s.drop 4).take 2=w2 at *;generalize (s.drop 6).take 2=w3 at *;generalize (s.drop 9).take 2=w4 at *;generalize (s.drop 11).take 2=w5 at *;generalize (s.drop 13).take 2=w6 at *;by_cases g1:digs w1∧digs w2∧digs w3
    ·by_cases g2:digs w4∧digs w5∧digs w6
     ·rw[hA.1 g1,hB.1 g2];have b1:=pP w1 g1.1;have b2:=pP w2 g1.2.1;have b3:=pP w3 g1.2.2;have b4:=pP w4 g2.1;have b5:=pP w5 g2.2.1;have b6:=pP w6 g2.2.2;rw[L1]at b1;rw[L2]at b2;rw[L3]at b3;rw[L4]at b4;rw[L5]at b5;rw[L6]at b6;have v1:dval 0 (w1++(w2++w3))=dval 0 w1*10000+dval 0 w2*100+dval 0 w3:=by rw[yH,yH,fJ w3,fJ w2,L2,L3];omega
      have v2:dval 0 (w4++(w5++w6))=dval 0 w4*10000+dval 0 w5*100+dval 0 w6:=by rw[yH,yH,fJ w6,fJ w5,L5,L6];omega
      rw[v1,v2];have p1:=p1 g1.1;have p2:=p2 g1.2.1;have p3:=p3 g1.2.2;have p4:=p4 g2.1;have p5:=p5 g2.2.1;have p6:=p6 g2.2.2;subst p1 p2 p3 p4 p5 p6;rw[rI2 _ _ _ _ _ _ (by omega)];generalize dval 0 w1=a1 at *;generalize dval 0 w2=a2 at *;generalize dval 0 w3=a3 at *;generalize dval 0 w4=a4 at *;generalize dval 0 w5=a5 at *;generalize dval 0 w6=a6 at *;obtain⟨t,e,m1,m2⟩:=mH1 a1 a2 a3 a4 a5 a6 (by omega) (by omega) (by omega);refine⟨t,e,?_,by rw[m2];rfl⟩;have k1:Int.tdiv ((a1*10000+a2*100+a3:Nat):Int) 10000=a1:=by rw[tdn (by omega)];omega
      have k2:Int.tdiv ((a1*10000+a2*100+a3:Nat):Int) 100=((a1*100+a2:Nat):Int):=by rw[tdn (by omega)];omega
      have k3:Int.tmod ((a1*100+a2:Nat):Int) 100=a2:=by rw[tmn (by omega)];omega
      have k4:Int.tmod ((a1*10000+a2*100+a3:Nat):Int) 100=a3:=by rw[tmn (by omega)];omega
      have j1:Int.tdiv ((a4*10000+a5*100+a6:Nat):Int) 10000=a4:=by rw[tdn (by omega)];omega
      have j2:Int.tdiv ((a4*10000+a5*100+a6:Nat):Int) 100=((a4*100+a5:Nat):Int):=by rw[tdn (by omega)];omega
      have j3:Int.tmod ((a4*100+a5:Nat):Int) 100=a5:=by rw[tmn (by omega)];omega
      have j4:Int.tmod ((a4*10000+a5*100+a6:Nat):Int) 100=a6:=by rw[tmn (by omega)];omega
      simp(disch:=omega)only[ss,gB.l2_eq,k1,k2,k4,j1,j2,j4];rw[k3,j3,m1];rfl
     ·refine⟨0,4,?_,?_⟩
      ·rw[hA.1 g1,hB.2 g2];simp(disch:=omega)only[ss,gB.l2_eq]
      ·refine len2 _ _ _ _ _ _ ?_;by_cases z4:digs w4
       ·by_cases z5:digs w5
        ·have:=q6 fun z6=>g2 ⟨z4,z5,z6⟩
         omega
        ·have:=q5 z5;omega
       ·have:=q4 z4;omega
    ·refine⟨0,4,?_,?_⟩
     ·rw[hA.2 g1];by_cases g2:digs w4∧digs w5∧digs w6
      ·rw[hB.1 g2];simp(disch:=omega)only[ss,gB.l2_eq]
      ·rw[hB.2 g2];simp(disch:=omega)only[ss,gB.l2_eq]
     ·refine len2 _ _ _ _ _ _ ?_;by_cases z1:digs w1
      ·by_cases z2:digs w2
       ·have:=q3 fun z3=>g1 ⟨z1,z2,z3⟩
        omega
       ·have:=q2 z2;omega
      ·have:=q1 z1;omega
   ·exact⟨0,4,by simp(disch:=omega)only[ss,szS,hbt,gB.l1_eq],by simp(disch:=omega)only[ss,szS,hbt,oB.l1_eq]⟩
theorem dm (a b:List UInt8):decide (mkS a=mkS b)=decide (a=b):=decide_eq_decide.2 ⟨uJ,fun h=>by rw[h]⟩
def FREQ :List UInt8:=[70,82,69,81]
def sh60 (r:Rl):Prop:=r.2.2.2.2.2.2.1.length≤60∧r.2.2.2.2.2.2.2.1.length≤60∧r.2.2.2.2.2.2.2.2.1.length≤60∧r.2.2.2.2.2.2.2.2.2.1.length≤60∧r.2.2.2.2.2.2.2.2.2.2.1.length≤60∧r.2.2.2.2.2.2.2.2.2.2.2.1.length≤60∧r.2.2.2.2.2.2.2.2.2.2.2.2.1.length≤60∧r.2.2.2.2.2.2.2.2.2.2.2.2.2.1.length≤60∧r.2.2.2.2.2.2.2.2.2.2.2.2.2.2.1.length≤60
def Part (r:Rl) (name:List UInt8) (a b:Option (Bool×Rl×Unit)):Prop:=
 (∃r':Rl,a=some (true,r',())∧b=some (true,r',())∧(sh60 r→sh60 r')∧(name=FREQ→r'.1≠0)∧(name≠FREQ→r'.1=r.1))∨(∃r1 r2:Rl,a=some (false,r1,())∧b=some (false,r2,()))
def fw :List (List UInt8):=[[89,69,65,82,76,89],[77,79,78,84,72,76,89],[87,69,69,75,76,89],[68,65,73,76,89],[72,79,85,82,76,89],[77,73,78,85,84,69,76,89],[83,69,67,79,78,68,76,89]]
theorem zD1 :kK.f=some (fw.map mkS,()):=by rw[kK.f_eq];rfl
theorem oK1 :sH.f=some ((([]:List UInt8)::fw).map mkS,()):=by rw[sH.f_eq];rfl
theorem nm0 :(⟨#[70,82,69,81]⟩:ByteArray)=mkS [70,82,69,81]:=rfl
theorem nm1 :(⟨#[73,78,84,69,82,86,65,76]⟩:ByteArray)=mkS [73,78,84,69,82,86,65,76]:=rfl
theorem nm2 :(⟨#[67,79,85,78,84]⟩:ByteArray)=mkS [67,79,85,78,84]:=rfl
theorem nm3 :(⟨#[85,78,84,73,76]⟩:ByteArray)=mkS [85,78,84,73,76]:=rfl
theorem nm4 :(⟨#[66,89,68,65,89]⟩:ByteArray)=mkS [66,89,68,65,89]:=rfl
theorem nm5 :(⟨#[87,75,83,84]⟩:ByteArray)=mkS [87,75,83,84]:=rfl
theorem nm6 :(⟨#[66,89,77,79,78,84,72]⟩:ByteArray)=mkS [66,89,77,79,78,84,72]:=rfl
theorem nm7 :(⟨#[66,89,87,69,69,75,78,79]⟩:ByteArray)=mkS [66,89,87,69,69,75,78,79]:=rfl
theorem nm8 :(⟨#[66,89,89,69,65,82,68,65,89]⟩:ByteArray)=mkS [66,89,89,69,65,82,68,65,89]:=rfl
theorem nm9 :(⟨#[66,89,77,79,78,84,72,68,65,89]⟩:ByteArray)=mkS [66,89,77,79,78,84,72,68,65,89]:=rfl
theorem nm10 :(⟨#[66,89,72,79,85,82]⟩:ByteArray)=mkS [66,89,72,79,85,82]:=rfl
theorem nm11 :(⟨#[66,89,77,73,78,85,84,69]⟩:ByteArray)=mkS [66,89,77,73,78,85,84,69]:=rfl
theorem nm12 :(⟨#[66,89,83,69,67,79,78,68]⟩:ByteArray)=mkS [66,89,83,69,67,79,78,68]:=rfl
theorem nm13 :(⟨#[66,89,83,69,84,80,79,83]⟩:ByteArray)=mkS [66,89,83,69,84,80,79,83]:=rfl
section
variable (f iv ct un wk : Int) (en : Bool) (mo we yd md : List Int) (dy : List Dy) (ho mi se po : List Int)
theorem wC1 (v:List UInt8) (hv:v.length≤50000):Part (f,iv,ct,un,wk,en,mo,we,yd,md,dy,ho,mi,se,po,()) [73,78,84,69,82,86,65,76] (iA.f (f,iv,ct,un,wk,en,mo,we,yd,md,dy,ho,mi,se,po,()) (mkS [73,78,84,69,82,86,65,76]) (mkS v)) (yB.f (f,iv,ct,un,wk,en,mo,we,yd,md,dy,ho,mi,se,po,()) (mkS [73,78,84,69,82,86,65,76]) (mkS v)):=by
 rw[iA.f_eq,yB.f_eq];simp(disch:=decide)only[kE,nm0,nm1,nm2,nm3,nm4,nm5,nm6,nm7,nm8,nm9,nm10,nm11,nm12,nm13,dm,dp,dn,cond_true,cond_false];rcases qK v (by omega)with⟨n,hn,e⟩ | ⟨hn,n,e⟩ <;> rcases rJ v (by omega)with⟨m,hm,g⟩ | ⟨hm,m,g⟩
 ·have:=zJ hn hm;subst this;simp only[e,g,qJ2];refine .inl ⟨(f,n,ct,un,wk,en,mo,we,yd,md,dy,ho,mi,se,po,()),rfl,rfl,?_,fun h=>absurd h (by decide),fun _=>rfl⟩;exact fun h=>h
 ·exact absurd hn (hm n)
 ·exact absurd hm (hn m)
 ·simp only[e,g,qJ2];exact .inr ⟨_,_,rfl,rfl⟩
theorem xN1 (v:List UInt8) (hv:v.length≤50000):Part (f,iv,ct,un,wk,en,mo,we,yd,md,dy,ho,mi,se,po,()) [67,79,85,78,84] (iA.f (f,iv,ct,un,wk,en,mo,we,yd,md,dy,ho,mi,se,po,()) (mkS [67,79,85,78,84]) (mkS v)) (yB.f (f,iv,ct,un,wk,en,mo,we,yd,md,dy,ho,mi,se,po,()) (mkS [67,79,85,78,84]) (mkS v)):=by
 rw[iA.f_eq,yB.f_eq];simp(disch:=decide)only[kE,nm0,nm1,nm2,nm3,nm4,nm5,nm6,nm7,nm8,nm9,nm10,nm11,nm12,nm13,dm,dp,dn,cond_true,cond_false];rcases qK v (by omega)with⟨n,hn,e⟩ | ⟨hn,n,e⟩ <;> rcases rJ v (by omega)with⟨m,hm,g⟩ | ⟨hm,m,g⟩
 ·have:=zJ hn hm;subst this;simp only[e,g,qJ2];refine .inl ⟨(f,iv,n,un,wk,en,mo,we,yd,md,dy,ho,mi,se,po,()),rfl,rfl,?_,fun h=>absurd h (by decide),fun _=>rfl⟩;exact fun h=>h
 ·exact absurd hn (hm n)
 ·exact absurd hm (hn m)
 ·simp only[e,g,qJ2];exact .inr ⟨_,_,rfl,rfl⟩
theorem lO1 (v:List UInt8) (hv:v.length≤50000):Part (f,iv,ct,un,wk,en,mo,we,yd,md,dy,ho,mi,se,po,()) [85,78,84,73,76] (iA.f (f,iv,ct,un,wk,en,mo,we,yd,md,dy,ho,mi,se,po,()) (mkS [85,78,84,73,76]) (mkS v)) (yB.f (f,iv,ct,un,wk,en,mo,we,yd,md,dy,ho,mi,se,po,()) (mkS [85,78,84,73,76]) (mkS v)):=by
 rw[iA.f_eq,yB.f_eq];simp(disch:=decide)only[kE,nm0,nm1,nm2,nm3,nm4,nm5,nm6,nm7,nm8,nm9,nm10,nm11,nm12,nm13,dm,dp,dn,cond_true,cond_false];obtain⟨t,e,h1,h2⟩:=iH v (by omega);simp only[h1,h2,qJ2];by_cases he:e=0
 ·rw[dp he];refine .inl ⟨(f,iv,ct,t,wk,true,mo,we,yd,md,dy,ho,mi,se,po,()),rfl,rfl,fun h=>h,fun h=>absurd h (by decide),fun _=>rfl⟩
 ·rw[dn he];exact .inr ⟨_,_,rfl,rfl⟩
theorem rO1 (v:List UInt8) (hv:v.length≤50000):Part (f,iv,ct,un,wk,en,mo,we,yd,md,dy,ho,mi,se,po,()) [66,89,68,65,89] (iA.f (f,iv,ct,un,wk,en,mo,we,yd,md,dy,ho,mi,se,po,()) (mkS [66,89,68,65,89]) (mkS v)) (yB.f (f,iv,ct,un,wk,en,mo,we,yd,md,dy,ho,mi,se,po,()) (mkS [66,89,68,65,89]) (mkS v)):=by
 rw[iA.f_eq,yB.f_eq];simp(disch:=decide)only[kE,nm0,nm1,nm2,nm3,nm4,nm5,nm6,nm7,nm8,nm9,nm10,nm11,nm12,nm13,dm,dp,dn,cond_true,cond_false];rcases iU v hv with⟨r,hr,e,g⟩ | ⟨_,e,g⟩
 ·have hr:r.length≤60:=hr.1.2;simp only[e,g,qJ2];refine .inl ⟨(f,iv,ct,un,wk,en,mo,we,yd,md,r,ho,mi,se,po,()),rfl,rfl,?_,fun h=>absurd h (by decide),fun _=>rfl⟩
  exact fun h=>by unfold sh60 at *;dsimp only at *;exact⟨h.1,h.2.1,h.2.2.1,h.2.2.2.1,hr,h.2.2.2.2.2.1,h.2.2.2.2.2.2.1,h.2.2.2.2.2.2.2.1,h.2.2.2.2.2.2.2.2⟩
 ·simp only[e,g,qJ2];exact .inr ⟨_,_,rfl,rfl⟩
theorem rG1 (v:List UInt8) (hv:v.length≤50000):Part (f,iv,ct,un,wk,en,mo,we,yd,md,dy,ho,mi,se,po,()) [66,89,77,79,78,84,72] (iA.f (f,iv,ct,un,wk,en,mo,we,yd,md,dy,ho,mi,se,po,()) (mkS [66,89,77,79,78,84,72]) (mkS v)) (yB.f (f,iv,ct,un,wk,en,mo,we,yd,md,dy,ho,mi,se,po,()) (mkS [66,89,77,79,78,84,72]) (mkS v)):=by
 rw[iA.f_eq,yB.f_eq];simp(disch:=decide)only[kE,nm0,nm1,nm2,nm3,nm4,nm5,nm6,nm7,nm8,nm9,nm10,nm11,nm12,nm13,dm,dp,dn,cond_true,cond_false];rw[iA.l1_eq];rcases iI v hv with⟨r,hr,e,g⟩ | ⟨_,e,g⟩
 ·have hr:r.length≤60:=hr.1.2;simp only[e,g,qJ2];refine .inl ⟨(f,iv,ct,un,wk,en,r,we,yd,md,dy,ho,mi,se,po,()),rfl,rfl,?_,fun h=>absurd h (by decide),fun _=>rfl⟩
  exact fun h=>by unfold sh60 at *;dsimp only at *;exact⟨hr,h.2.1,h.2.2.1,h.2.2.2.1,h.2.2.2.2.1,h.2.2.2.2.2.1,h.2.2.2.2.2.2.1,h.2.2.2.2.2.2.2.1,h.2.2.2.2.2.2.2.2⟩
 ·simp only[e,g,qJ2];exact .inr ⟨_,_,rfl,rfl⟩
theorem wB1 (v:List UInt8) (hv:v.length≤50000):Part (f,iv,ct,un,wk,en,mo,we,yd,md,dy,ho,mi,se,po,()) [66,89,87,69,69,75,78,79] (iA.f (f,iv,ct,un,wk,en,mo,we,yd,md,dy,ho,mi,se,po,()) (mkS [66,89,87,69,69,75,78,79]) (mkS v)) (yB.f (f,iv,ct,un,wk,en,mo,we,yd,md,dy,ho,mi,se,po,()) (mkS [66,89,87,69,69,75,78,79]) (mkS v)):=by
 rw[iA.f_eq,yB.f_eq];simp(disch:=decide)only[kE,nm0,nm1,nm2,nm3,nm4,nm5,nm6,nm7,nm8,nm9,nm10,nm11,nm12,nm13,dm,dp,dn,cond_true,cond_false];rw[iA.l1a_eq];rcases iI v hv with⟨r,hr,e,g⟩ | ⟨_,e,g⟩
 ·have hr:r.length≤60:=hr.1.2;simp only[e,g,qJ2];refine .inl ⟨(f,iv,ct,un,wk,en,mo,r,yd,md,dy,ho,mi,se,po,()),rfl,rfl,?_,fun h=>absurd h (by decide),fun _=>rfl⟩
  exact fun h=>by unfold sh60 at *;dsimp only at *;exact⟨h.1,hr,h.2.2.1,h.2.2.2.1,h.2.2.2.2.1,h.2.2.2.2.2.1,h.2.2.2.2.2.2.1,h.2.2.2.2.2.2.2.1,h.2.2.2.2.2.2.2.2⟩
 ·simp only[e,g,qJ2];exact .inr ⟨_,_,rfl,rfl⟩
theorem aZ (v:List UInt8) (hv:v.length≤50000):Part (f,iv,ct,un,wk,en,mo,we,yd,md,dy,ho,mi,se,po,()) [66,89,89,69,65,82,68,65,89] (iA.f (f,iv,ct,un,wk,en,mo,we,yd,md,dy,ho,mi,se,po,()) (mkS [66,89,89,69,65,82,68,65,89]) (mkS v)) (yB.f (f,iv,ct,un,wk,en,mo,we,yd,md,dy,ho,mi,se,po,()) (mkS [66,89,89,69,65,82,68,65,89]) (mkS v)):=by
 rw[iA.f_eq,yB.f_eq];simp(disch:=decide)only[kE,nm0,nm1,nm2,nm3,nm4,nm5,nm6,nm7,nm8,nm9,nm10,nm11,nm12,nm13,dm,dp,dn,cond_true,cond_false];rw[iA.l1b_eq];rcases iI v hv with⟨r,hr,e,g⟩ | ⟨_,e,g⟩
 ·have hr:r.length≤60:=hr.1.2;simp only[e,g,qJ2];refine .inl ⟨(f,iv,ct,un,wk,en,mo,we,r,md,dy,ho,mi,se,po,()),rfl,rfl,?_,fun h=>absurd h (by decide),fun _=>rfl⟩
  exact fun h=>by unfold sh60 at *;dsimp only at *;exact⟨h.1,h.2.1,hr,h.2.2.2.1,h.2.2.2.2.1,h.2.2.2.2.2.1,h.2.2.2.2.2.2.1,h.2.2.2.2.2.2.2.1,h.2.2.2.2.2.2.2.2⟩
 ·simp only[e,g,qJ2];exact .inr ⟨_,_,rfl,rfl⟩
theorem eW (v:List UInt8) (hv:v.length≤50000):Part (f,iv,ct,un,wk,en,mo,we,yd,md,dy,ho,mi,se,po,()) [66,89,77,79,78,84,72,68,65,89] (iA.f (f,iv,ct,un,wk,en,mo,we,yd,md,dy,ho,mi,se,po,()) (mkS [66,89,77,79,78,84,72,68,65,89]) (mkS v)) (yB.f (f,iv,ct,un,wk,en,mo,we,yd,md,dy,ho,mi,se,po,()) (mkS [66,89,77,79,78,84,72,68,65,89]) (mkS v)):=by
 rw[iA.f_eq,yB.f_eq];simp(disch:=decide)only[kE,nm0,nm1,nm2,nm3,nm4,nm5,nm6,nm7,nm8,nm9,nm10,nm11,nm12,nm13,dm,dp,dn,cond_true,cond_false];rw[iA.l1c_eq];rcases iI v hv with⟨r,hr,e,g⟩ | ⟨_,e,g⟩
 ·have hr:r.length≤60:=hr.1.2;simp only[e,g,qJ2];refine .inl ⟨(f,iv,ct,un,wk,en,mo,we,yd,r,dy,ho,mi,se,po,()),rfl,rfl,?_,fun h=>absurd h (by decide),fun _=>rfl⟩
  exact fun h=>by unfold sh60 at *;dsimp only at *;exact⟨h.1,h.2.1,h.2.2.1,hr,h.2.2.2.2.1,h.2.2.2.2.2.1,h.2.2.2.2.2.2.1,h.2.2.2.2.2.2.2.1,h.2.2.2.2.2.2.2.2⟩
 ·simp only[e,g,qJ2];exact .inr ⟨_,_,rfl,rfl⟩
theorem aI1 (v:List UInt8) (hv:v.length≤50000):Part (f,iv,ct,un,wk,en,mo,we,yd,md,dy,ho,mi,se,po,()) [66,89,72,79,85,82] (iA.f (f,iv,ct,un,wk,en,mo,we,yd,md,dy,ho,mi,se,po,()) (mkS [66,89,72,79,85,82]) (mkS v)) (yB.f (f,iv,ct,un,wk,en,mo,we,yd,md,dy,ho,mi,se,po,()) (mkS [66,89,72,79,85,82]) (mkS v)):=by
 rw[iA.f_eq,yB.f_eq];simp(disch:=decide)only[kE,nm0,nm1,nm2,nm3,nm4,nm5,nm6,nm7,nm8,nm9,nm10,nm11,nm12,nm13,dm,dp,dn,cond_true,cond_false];rw[iA.l1d_eq];rcases iI v hv with⟨r,hr,e,g⟩ | ⟨_,e,g⟩
 ·have hr:r.length≤60:=hr.1.2;simp only[e,g,qJ2];refine .inl ⟨(f,iv,ct,un,wk,en,mo,we,yd,md,dy,r,mi,se,po,()),rfl,rfl,?_,fun h=>absurd h (by decide),fun _=>rfl⟩
  exact fun h=>by unfold sh60 at *;dsimp only at *;exact⟨h.1,h.2.1,h.2.2.1,h.2.2.2.1,h.2.2.2.2.1,hr,h.2.2.2.2.2.2.1,h.2.2.2.2.2.2.2.1,h.2.2.2.2.2.2.2.2⟩
 ·simp only[e,g,qJ2];exact .inr ⟨_,_,rfl,rfl⟩
theorem nD1 (v:List UInt8) (hv:v.length≤50000):Part (f,iv,ct,un,wk,en,mo,we,yd,md,dy,ho,mi,se,po,()) [66,89,77,73,78,85,84,69] (iA.f (f,iv,ct,un,wk,en,mo,we,yd,md,dy,ho,mi,se,po,()) (mkS [66,89,77,73,78,85,84,69]) (mkS v)) (yB.f (f,iv,ct,un,wk,en,mo,we,yd,md,dy,ho,mi,se,po,()) (mkS [66,89,77,73,78,85,84,69]) (mkS v)):=by
 rw[iA.f_eq,yB.f_eq];simp(disch:=decide)only[kE,nm0,nm1,nm2,nm3,nm4,nm5,nm6,nm7,nm8,nm9,nm10,nm11,nm12,nm13,dm,dp,dn,cond_true,cond_false];rw[iA.l1e_eq];rcases iI v hv with⟨r,hr,e,g⟩ | ⟨_,e,g⟩
 ·have hr:r.length≤60:=hr.1.2;simp only[e,g,qJ2];refine .inl ⟨(f,iv,ct,un,wk,en,mo,we,yd,md,dy,ho,r,se,po,()),rfl,rfl,?_,fun h=>absurd h (by decide),fun _=>rfl⟩
  exact fun h=>by unfold sh60 at *;dsimp only at *;exact⟨h.1,h.2.1,h.2.2.1,h.2.2.2.1,h.2.2.2.2.1,h.2.2.2.2.2.1,hr,h.2.2.2.2.2.2.2.1,h.2.2.2.2.2.2.2.2⟩
 ·simp only[e,g,qJ2];exact .inr ⟨_,_,rfl,rfl⟩
theorem hC1 (v:List UInt8) (hv:v.length≤50000):Part (f,iv,ct,un,wk,en,mo,we,yd,md,dy,ho,mi,se,po,()) [66,89,83,69,67,79,78,68] (iA.f (f,iv,ct,un,wk,en,mo,we,yd,md,dy,ho,mi,se,po,()) (mkS [66,89,83,69,67,79,78,68]) (mkS v)) (yB.f (f,iv,ct,un,wk,en,mo,we,yd,md,dy,ho,mi,se,po,()) (mkS [66,89,83,69,67,79,78,68]) (mkS v)):=by
 rw[iA.f_eq,yB.f_eq];simp(disch:=decide)only[kE,nm0,nm1,nm2,nm3,nm4,nm5,nm6,nm7,nm8,nm9,nm10,nm11,nm12,nm13,dm,dp,dn,cond_true,cond_false];rw[iA.l1f_eq];rcases iI v hv with⟨r,hr,e,g⟩ | ⟨_,e,g⟩
 ·have hr:r.length≤60:=hr.1.2;simp only[e,g,qJ2];refine .inl ⟨(f,iv,ct,un,wk,en,mo,we,yd,md,dy,ho,mi,r,po,()),rfl,rfl,?_,fun h=>absurd h (by decide),fun _=>rfl⟩
  exact fun h=>by unfold sh60 at *;dsimp only at *;exact⟨h.1,h.2.1,h.2.2.1,h.2.2.2.1,h.2.2.2.2.1,h.2.2.2.2.2.1,h.2.2.2.2.2.2.1,hr,h.2.2.2.2.2.2.2.2⟩
 ·simp only[e,g,qJ2];exact .inr ⟨_,_,rfl,rfl⟩
theorem qB1 (v:List UInt8) (hv:v.length≤50000):Part (f,iv,ct,un,wk,en,mo,we,yd,md,dy,ho,mi,se,po,()) [66,89,83,69,84,80,79,83] (iA.f (f,iv,ct,un,wk,en,mo,we,yd,md,dy,ho,mi,se,po,()) (mkS [66,89,83,69,84,80,79,83]) (mkS v)) (yB.f (f,iv,ct,un,wk,en,mo,we,yd,md,dy,ho,mi,se,po,()) (mkS [66,89,83,69,84,80,79,83]) (mkS v)):=by
 rw[iA.f_eq,yB.f_eq];simp(disch:=decide)only[kE,nm0,nm1,nm2,nm3,nm4,nm5,nm6,nm7,nm8,nm9,nm10,nm11,nm12,nm13,dm,dp,dn,cond_true,cond_false];rw[iA.l1g_eq];rcases iI v hv with⟨r,hr,e,g⟩ | ⟨_,e,g⟩
 ·have hr:r.length≤60:=hr.1.2;simp only[e,g,qJ2];refine .inl ⟨(f,iv,ct,un,wk,en,mo,we,yd,md,dy,ho,mi,se,r,()),rfl,rfl,?_,fun h=>absurd h (by decide),fun _=>rfl⟩
  exact fun h=>by unfold sh60 at *;dsimp only at *;exact⟨h.1,h.2.1,h.2.2.1,h.2.2.2.1,h.2.2.2.2.1,h.2.2.2.2.2.1,h.2.2.2.2.2.2.1,h.2.2.2.2.2.2.2.1,hr⟩
 ·simp only[e,g,qJ2];exact .inr ⟨_,_,rfl,rfl⟩
theorem hQ1 (v:List UInt8) (hv:v.length≤50000):Part (f,iv,ct,un,wk,en,mo,we,yd,md,dy,ho,mi,se,po,()) [87,75,83,84] (iA.f (f,iv,ct,un,wk,en,mo,we,yd,md,dy,ho,mi,se,po,()) (mkS [87,75,83,84]) (mkS v)) (yB.f (f,iv,ct,un,wk,en,mo,we,yd,md,dy,ho,mi,se,po,()) (mkS [87,75,83,84]) (mkS v)):=by
 rw[iA.f_eq,yB.f_eq];simp(disch:=decide)only[kE,nm0,nm1,nm2,nm3,nm4,nm5,nm6,nm7,nm8,nm9,nm10,nm11,nm12,nm13,dm,dp,dn,cond_true,cond_false];have hI:=fK wd v (by decide);have hW:=bR wd v (by decide);have hp:=mP wd v 0 (by omega);have hnil:([]:List UInt8)∉wd:=by decide
 simp only[yI,cR,hI,hW,qJ2];by_cases c:v∈wd
 ·have hv0:v≠[]:=fun q=>hnil (q ▸ c)
  have hge:=hp.1.2 c;rw[if_neg hv0,dp (show posF 0 wd v≥0 from hge)];exact .inl ⟨_,rfl,rfl,fun h=>h,fun h=>absurd h (by decide),fun _=>rfl⟩
 ·have hlt:¬posF 0 wd v≥0:=fun q=>c (hp.1.1 q)
  have:¬(if v=[]then(-1:Int)else posF 0 wd v)≥0:=by split <;> omega
  rw[dn hlt,dn this];exact .inr ⟨_,_,rfl,rfl⟩
theorem tR1 (v:List UInt8) (hv:v.length≤50000):Part (f,iv,ct,un,wk,en,mo,we,yd,md,dy,ho,mi,se,po,()) [70,82,69,81] (iA.f (f,iv,ct,un,wk,en,mo,we,yd,md,dy,ho,mi,se,po,()) (mkS [70,82,69,81]) (mkS v)) (yB.f (f,iv,ct,un,wk,en,mo,we,yd,md,dy,ho,mi,se,po,()) (mkS [70,82,69,81]) (mkS v)):=by
 rw[iA.f_eq,yB.f_eq];simp(disch:=decide)only[kE,nm0,nm1,nm2,nm3,nm4,nm5,nm6,nm7,nm8,nm9,nm10,nm11,nm12,nm13,dm,dp,dn,cond_true,cond_false];have hI:=fK fw v (by decide);have hW:=bR ([]::fw) v (by decide);have hp:=mP fw v 0 (by omega);have hlt7:=iE1 fw v 0 (by omega);have hl7:(fw.length:Int)=7:=rfl;have hnil:([]:List UInt8)∉fw:=by decide
 have hs:=lH1 fw v 0;have hw:w6 (posF 0 fw v+1)=posF 0 fw v+1:=wr (by omega) (by omega);simp only[zD1,oK1,hI,hW,qJ2,hw];by_cases c:v∈fw
 ·have hv0:v≠[]:=fun q=>hnil (q ▸ c)
  have hge:=hp.1.2 c;have e:posF 0 ([]::fw) v=posF 0 fw v+1:=by show(if []=v then(0:Int)else posF (0+1) fw v)=_;rw[if_neg fun q=>hv0 q.symm,hs,if_pos c]
  rw[if_neg hv0,e,dp (show posF 0 fw v+1>0 by omega)];refine .inl ⟨(posF 0 fw v+1,iv,ct,un,wk,en,mo,we,yd,md,dy,ho,mi,se,po,()),rfl,rfl,fun h=>h,fun _=>?_,fun h=>absurd rfl h⟩;show posF 0 fw v+1≠0;omega
 ·have hlt:posF 0 fw v = -1:=hp.2.2.2 (Int.not_le.1 fun q=>c (hp.1.1 q))
  have:(if v=[]then(-1:Int)else posF 0 ([]::fw) v) = -1:=by
   by_cases hv0:v=[]
   ·rw[if_pos hv0]
   ·rw[if_neg hv0];show(if []=v then(0:Int)else posF (0+1) fw v)=_;rw[if_neg fun q=>hv0 q.symm,hs,if_neg c]
  rw[this,hlt];exact .inr ⟨_,_,rfl,rfl⟩
theorem tF1 (name v:List UInt8) (hv:v.length≤50000):Part (f,iv,ct,un,wk,en,mo,we,yd,md,dy,ho,mi,se,po,()) name (iA.f (f,iv,ct,un,wk,en,mo,we,yd,md,dy,ho,mi,se,po,()) (mkS name) (mkS v)) (yB.f (f,iv,ct,un,wk,en,mo,we,yd,md,dy,ho,mi,se,po,()) (mkS name) (mkS v)):=by
 by_cases h0:name=[70,82,69,81]
 ·subst h0;exact tR1 f iv ct un wk en mo we yd md dy ho mi se po v hv
 by_cases h1:name=[73,78,84,69,82,86,65,76]
 ·subst h1;exact wC1 f iv ct un wk en mo we yd md dy ho mi se po v hv
 by_cases h2:name=[67,79,85,78,84]
 ·subst h2;exact xN1 f iv ct un wk en mo we yd md dy ho mi se po v hv
 by_cases h3:name=[85,78,84,73,76]
 ·subst h3;exact lO1 f iv ct un wk en mo we yd md dy ho mi se po v hv
 by_cases h4:name=[66,89,68,65,89]
 ·subst h4;exact rO1 f iv ct un wk en mo we yd md dy ho mi se po v hv
 by_cases h5:name=[87,75,83,84]
 ·subst h5;exact hQ1 f iv ct un wk en mo we yd md dy ho mi se po v hv
 by_cases h6:name=[66,89,77,79,78,84,72]
 ·subst h6;exact rG1 f iv ct un wk en mo we yd md dy ho mi se po v hv
 by_cases h7:name=[66,89,87,69,69,75,78,79]
 ·subst h7;exact wB1 f iv ct un wk en mo we yd md dy ho mi se po v hv
 by_cases h8:name=[66,89,89,69,65,82,68,65,89]
 ·subst h8;exact aZ f iv ct un wk en mo we yd md dy ho mi se po v hv
 by_cases h9:name=[66,89,77,79,78,84,72,68,65,89]
 ·subst h9;exact eW f iv ct un wk en mo we yd md dy ho mi se po v hv
 by_cases h10:name=[66,89,72,79,85,82]
 ·subst h10;exact aI1 f iv ct un wk en mo we yd md dy ho mi se po v hv
 by_cases h11:name=[66,89,77,73,78,85,84,69]
 ·subst h11;exact nD1 f iv ct un wk en mo we yd md dy ho mi se po v hv
 by_cases h12:name=[66,89,83,69,67,79,78,68]
 ·subst h12;exact hC1 f iv ct un wk en mo we yd md dy ho mi se po v hv
 by_cases h13:name=[66,89,83,69,84,80,79,83]
 ·subst h13;exact qB1 f iv ct un wk en mo we yd md dy ho mi se po v hv
 rw[iA.f_eq,yB.f_eq];simp only[kE,nm0,nm1,nm2,nm3,nm4,nm5,nm6,nm7,nm8,nm9,nm10,nm11,nm12,nm13,dm,dn h0,dn h1,dn h2,dn h3,dn h4,dn h5,dn h6,dn h7,dn h8,dn h9,dn h10,dn h11,dn h12,dn h13,cond_false];rw[iA.l1h_eq];exact .inr ⟨_,_,rfl,rfl⟩
end
def zR :Rl:=(0,0,0,0,0,false,[],[],[],[],[],[],[],[],[],())
noncomputable def PA (p:List (List UInt8)) (i:Nat) (r:Rl) (ms:List (List UInt8)):Option (Rl×Int×Int×Unit):=yA.l1a (p.map mkS) p.length i 0 0 0 0 0 false r.1 r.2.1 r.2.2.1 r.2.2.2.1 r.2.2.2.2.1 r.2.2.2.2.2.1 r.2.2.2.2.2.2.1 r.2.2.2.2.2.2.2.1 r.2.2.2.2.2.2.2.2.1 r.2.2.2.2.2.2.2.2.2.1 r.2.2.2.2.2.2.2.2.2.2.1 r.2.2.2.2.2.2.2.2.2.2.2.1 r.2.2.2.2.2.2.2.2.2.2.2.2.1 r.2.2.2.2.2.2.2.2.2.2.2.2.2.1 r.2.2.2.2.2.2.2.2.2.2.2.2.2.2.1 (ms.map mkS)
noncomputable def VA (p:List (List UInt8)) (i:Nat) (r:Rl) (ms:List (List UInt8)):Option (Rl×Int×Int×Unit):=aB.l1a (p.map mkS) i 0 0 0 0 0 false r.1 r.2.1 r.2.2.1 r.2.2.2.1 r.2.2.2.2.1 r.2.2.2.2.2.1 r.2.2.2.2.2.2.1 r.2.2.2.2.2.2.2.1 r.2.2.2.2.2.2.2.2.1 r.2.2.2.2.2.2.2.2.2.1 r.2.2.2.2.2.2.2.2.2.2.1 r.2.2.2.2.2.2.2.2.2.2.2.1 r.2.2.2.2.2.2.2.2.2.2.2.2.1 r.2.2.2.2.2.2.2.2.2.2.2.2.2.1 r.2.2.2.2.2.2.2.2.2.2.2.2.2.2.1 (ms.map mkS)
def Both (a b:Option (Rl×Int×Int×Unit)):Prop:=∃(R:Rl) (at_ e:Int),a=some (R,at_,e,())∧b=some (R,at_,e,())∧sh60 R
theorem uF2 :sh60 zR:=by unfold sh60 zR;simp
theorem eA1 (n e:Int):Both (some (zR,n,e,())) (some (zR,n,e,())):=⟨zR,n,e,rfl,rfl,uF2⟩
theorem gB1 {r:Rl} (h:sh60 r):jO r.2.2.2.2.2.2.1 r.2.2.2.2.2.2.2.1 r.2.2.2.2.2.2.2.2.1 r.2.2.2.2.2.2.2.2.2.1 r.2.2.2.2.2.2.2.2.2.2.1 r.2.2.2.2.2.2.2.2.2.2.2.1 r.2.2.2.2.2.2.2.2.2.2.2.2.1 r.2.2.2.2.2.2.2.2.2.2.2.2.2.1 r.2.2.2.2.2.2.2.2.2.2.2.2.2.2.1:=by unfold sh60 at h;unfold jO;omega
theorem pZ1 (r:Rl) (v:List UInt8):∃r1:Rl,iA.f (r.1,r.2.1,r.2.2.1,r.2.2.2.1,r.2.2.2.2.1,r.2.2.2.2.2.1,r.2.2.2.2.2.2.1,r.2.2.2.2.2.2.2.1,r.2.2.2.2.2.2.2.2.1,r.2.2.2.2.2.2.2.2.2.1,r.2.2.2.2.2.2.2.2.2.2.1,r.2.2.2.2.2.2.2.2.2.2.2.1,r.2.2.2.2.2.2.2.2.2.2.2.2.1,r.2.2.2.2.2.2.2.2.2.2.2.2.2.1,r.2.2.2.2.2.2.2.2.2.2.2.2.2.2.1,()) (mkS []) (mkS v)=some (false,r1,()):=by rw[iA.f_eq];simp(disch:=decide)only[kE,nm0,nm1,nm2,nm3,nm4,nm5,nm6,nm7,nm8,nm9,nm10,nm11,nm12,nm13,dm,dn,cond_false];rw[iA.l1h_eq];exact⟨_,rfl⟩
theorem qO1 (p:List (List UInt8)) (hp:p.length≤10000) (hpl:∀s∈p,s.length≤5000):∀(k i:Nat) (r:Rl) (ms:List (List UInt8)),p.length-i=k→i≤p.length→ms.length≤i→sh60 r→[]∉ms→(FREQ∈ms↔r.1≠0)→Both (PA p i r ms) (VA p i r ms):=by
 have hlim:pC=17179869184:=rfl;have hml:(p.map mkS).length=p.length:=vJ2 ..;intro k
 induction k with
 | zero=>
  intro i r ms hk hil hms hr hne hfr;have e:i=p.length:=by omega
  subst e;have hC:aC.f (ms.map mkS) ⟨#[70,82,69,81]⟩=some (decide (FREQ∈ms),()):=xJ ms FREQ (by omega);have hM:=aE1 r (gB1 hr);obtain⟨b,hb⟩:=qV r (gB1 hr);have hMp:vA.f (r.1,r.2.1,r.2.2.1,r.2.2.2.1,r.2.2.2.2.1,r.2.2.2.2.2.1,r.2.2.2.2.2.2.1,r.2.2.2.2.2.2.2.1,r.2.2.2.2.2.2.2.2.1,r.2.2.2.2.2.2.2.2.2.1,r.2.2.2.2.2.2.2.2.2.2.1,r.2.2.2.2.2.2.2.2.2.2.2.1,r.2.2.2.2.2.2.2.2.2.2.2.2.1,r.2.2.2.2.2.2.2.2.2.2.2.2.2.1,r.2.2.2.2.2.2.2.2.2.2.2.2.2.2.1,())=some (b,()):=hb;have hMv:bA.f (r.1,r.2.1,r.2.2.1,r.2.2.2.1,r.2.2.2.2.1,r.2.2.2.2.2.1,r.2.2.2.2.2.2.1,r.2.2.2.2.2.2.2.1,r.2.2.2.2.2.2.2.2.1,r.2.2.2.2.2.2.2.2.2.1,r.2.2.2.2.2.2.2.2.2.2.1,r.2.2.2.2.2.2.2.2.2.2.2.1,r.2.2.2.2.2.2.2.2.2.2.2.2.1,r.2.2.2.2.2.2.2.2.2.2.2.2.2.1,r.2.2.2.2.2.2.2.2.2.2.2.2.2.2.1,())=some (b,()):=hM ▸ hb;unfold PA VA;rw[yA.l1a_eq,aB.l1a_eq];simp(disch:=omega)only[ss,hml,hC];by_cases c:FREQ∈ms
  ·have c0:¬r.1=0:=hfr.1 c;rw[dp c,dn c0];simp(disch:=omega)only[ss,hMp,hMv]
   cases b with
   | false=>exact eA1 0 1
   | true=>exact⟨r,0,0,rfl,rfl,hr⟩
  ·have c0:r.1=0:=Decidable.byContradiction fun q=>c (hfr.2 q)
   rw[dn c,dp c0];exact eA1 0 7
 | succ k ih=>
  intro i r ms hk hil hms hr hne hfr;have hlt:i<p.length:=by omega
  have hg:=gm p i hlt;have hsl:=hpl _ (yC [] hlt);have pt:∀x9:ByteArray,yA.l2a i x9 (p.map mkS) p.length i true 0 0 0 0 0 false r.1 r.2.1 r.2.2.1 r.2.2.2.1 r.2.2.2.2.1 r.2.2.2.2.2.1 r.2.2.2.2.2.2.1 r.2.2.2.2.2.2.2.1 r.2.2.2.2.2.2.2.2.1 r.2.2.2.2.2.2.2.2.2.1 r.2.2.2.2.2.2.2.2.2.2.1 r.2.2.2.2.2.2.2.2.2.2.2.1 r.2.2.2.2.2.2.2.2.2.2.2.2.1 r.2.2.2.2.2.2.2.2.2.2.2.2.2.1 r.2.2.2.2.2.2.2.2.2.2.2.2.2.2.1 (ms.map mkS)=some (zR,(i:Int),4,()):=fun x9=>by rw[yA.l2a_eq,cond_true];rfl
  have vt:∀x9:List ByteArray,aB.l2a (p.map mkS) i x9 true 0 0 0 0 0 false r.1 r.2.1 r.2.2.1 r.2.2.2.1 r.2.2.2.2.1 r.2.2.2.2.2.1 r.2.2.2.2.2.2.1 r.2.2.2.2.2.2.2.1 r.2.2.2.2.2.2.2.2.1 r.2.2.2.2.2.2.2.2.2.1 r.2.2.2.2.2.2.2.2.2.2.1 r.2.2.2.2.2.2.2.2.2.2.2.1 r.2.2.2.2.2.2.2.2.2.2.2.2.1 r.2.2.2.2.2.2.2.2.2.2.2.2.2.1 r.2.2.2.2.2.2.2.2.2.2.2.2.2.2.1 (ms.map mkS)=some (zR,(i:Int),4,()):=fun x9=>by rw[aB.l2a_eq,cond_true];rfl
  generalize hs:p.getD i []=s at hg hsl;have hV:tB.f (mkS s) 61=some ((segs 61 s).map mkS,()):=cL 61 s (by omega);have hsm:((segs 61 s).map mkS).length=(segs 61 s).length:=vJ2 ..;unfold PA VA;rw[yA.l1a_eq,aB.l1a_eq];simp(disch:=omega)only[ss,hml,hg,hV];rcases mI (c:=(61:UInt8)) (l:=s)with hno | ⟨a,b,hab,ha⟩
  ·have hc:dE.f (mkS s) ⟨#[61]⟩=some (mkS s,mkS [],false,()):=tU (s:=mkS s) (c:=61) hno;have hl1:((segs 61 s).map mkS).length=1:=by rw[hsm,nJ hno];rfl
   rw[hc,hl1];simp(disch:=omega)only[ss,pt,vt];exact eA1 i 4
  ·have hab2:a.length+b.length≤5000:=by rw[hab]at hsl;simp at hsl;omega
   have hc:dE.f (mkS s) ⟨#[61]⟩=some (mkS a,mkS b,true,()):=by rw[hab];exact aV (c:=61) (by omega) ha
   have hsg:segs 61 s=a::segs 61 b:=by rw[hab];exact qJ ha
   have hl2:2≤((segs 61 s).map mkS).length:=by rw[hsm,hsg];have:=hM2.2 (lY 61 b);simp;omega
   have h0:((segs 61 s).map mkS).getD 0 ByteArray.empty=mkS a:=by rw[hsg];rfl
   generalize (segs 61 s).map mkS=sg at hl2 h0;have hK:=xJ ms a (by omega);have hW:=bR ms a (by omega);have hpz:=mP ms a 0 (by omega);rw[hc];simp(disch:=omega)only[ss,h0,hK,hW];by_cases c:a∈ms
   ·have ha0:a≠[]:=fun q=>hne (q ▸ c)
    rw[dp c,if_neg ha0,dp (show posF 0 ms a≥0 from hpz.1.2 c)];simp(disch:=omega)only[ss,pt,vt];exact eA1 i 4
   ·have hw:¬(if a=[]then(-1:Int)else posF 0 ms a)≥0:=by
     split
     ·omega
     ·exact fun q=>c (hpz.1.1 q)
    rw[dn c,dn hw];have hsz:s.length=a.length+1+b.length:=by rw[hab];simp;omega
    have hx:(mkS s).extract (a.length+1) s.length=mkS b:=fI (by rw[←szS s,iL,B_mk,B_mk,hab,sM2];simp)
    have hvl:∀x,aB.l2a (p.map mkS) i sg false 0 0 0 0 0 false r.1 r.2.1 r.2.2.1 r.2.2.2.1 r.2.2.2.2.1 r.2.2.2.2.2.1 r.2.2.2.2.2.2.1 r.2.2.2.2.2.2.2.1 r.2.2.2.2.2.2.2.2.1 r.2.2.2.2.2.2.2.2.2.1 r.2.2.2.2.2.2.2.2.2.2.1 r.2.2.2.2.2.2.2.2.2.2.2.1 r.2.2.2.2.2.2.2.2.2.2.2.2.1 r.2.2.2.2.2.2.2.2.2.2.2.2.2.1 r.2.2.2.2.2.2.2.2.2.2.2.2.2.2.1 (ms.map mkS)=x↔((yB.f (r.1,r.2.1,r.2.2.1,r.2.2.2.1,r.2.2.2.2.1,r.2.2.2.2.2.1,r.2.2.2.2.2.2.1,r.2.2.2.2.2.2.2.1,r.2.2.2.2.2.2.2.2.1,r.2.2.2.2.2.2.2.2.2.1,r.2.2.2.2.2.2.2.2.2.2.1,r.2.2.2.2.2.2.2.2.2.2.2.1,r.2.2.2.2.2.2.2.2.2.2.2.2.1,r.2.2.2.2.2.2.2.2.2.2.2.2.2.1,r.2.2.2.2.2.2.2.2.2.2.2.2.2.2.1,()) (mkS a) (mkS b)).bind fun t9=>bif !t9.1 then(some (zR,(i:Int),4,()))else VA p (i+1) t9.2.1 (ms++[a]))=x:=fun x=>by
     rw[aB.l2a_eq];simp(disch:=omega)only[ss,h0,hml,hg,szS,sJ2,vJ2,hlim,hx];have:ms.map mkS++[mkS a]=(ms++[a]).map mkS:=by simp
     rw[this];rfl
    rw[(hvl _).2 rfl];simp only[cond_false];rcases tF1 r.1 r.2.1 r.2.2.1 r.2.2.2.1 r.2.2.2.2.1 r.2.2.2.2.2.1 r.2.2.2.2.2.2.1 r.2.2.2.2.2.2.2.1 r.2.2.2.2.2.2.2.2.1 r.2.2.2.2.2.2.2.2.2.1 r.2.2.2.2.2.2.2.2.2.2.1 r.2.2.2.2.2.2.2.2.2.2.2.1 r.2.2.2.2.2.2.2.2.2.2.2.2.1 r.2.2.2.2.2.2.2.2.2.2.2.2.2.1 r.2.2.2.2.2.2.2.2.2.2.2.2.2.2.1 a b (by omega)with⟨r',e1,e2,h60,hf1,hf2⟩ | ⟨r1,r2,e1,e2⟩
    ·have ha0:a≠[]:=fun q=>by subst q;obtain⟨r1,h1⟩:=pZ1 r b;rw[h1]at e1;cases e1
     rw[e1,e2];simp only[qJ2,zK2,cond_false]
     have next:=ih (i+1) r' (ms++[a]) (by omega) (by omega) (by simp;omega) (h60 hr) (by
      intro q;rcases gK2.1 q with q | q
      ·exact hne q
      ·rw[vK2]at q;exact ha0 q.symm) (by
      rw[gK2,vK2];by_cases hF:a=FREQ
      ·exact⟨fun _=>hf1 hF,fun _=>.inr hF.symm⟩
      ·rw[hf2 hF]
       exact⟨fun q=>hfr.1 (q.resolve_right fun q=>hF q.symm),fun q=>.inl (hfr.2 q)⟩)
     rw[yA.l2a_eq];simp(disch:=omega)only[ss,vJ2,sJ2,hlim];have:ms.map mkS++[mkS a]=(ms++[a]).map mkS:=by simp
     rw[this];exact next
    ·rw[e1,e2];simp only[qJ2,jL2,cond_true];rw[yA.l2a_eq,cond_true];exact eA1 i 4
theorem vA1 (s:List UInt8) (hs:s.length≤1000000):Both (yA.f (mkS s)) (aB.f (mkS s)):=by
 rw[yA.f_eq,aB.f_eq];by_cases c:(s.length:Int)>4096
 ·simp(disch:=omega)only[ss,szS];exact eA1 0 3
 ·have hsl:=xM 59 s;have hS:qD.f (mkS s) ⟨#[59]⟩=some ((segs 59 s).map mkS,()):=pK (c:=59) s (by omega);have hV:tB.f (mkS s) 59=some ((segs 59 s).map mkS,()):=cL 59 s (by omega);have hml:((segs 59 s).map mkS).length=(segs 59 s).length:=vJ2 ..
  have hR:∀(x:List ByteArray) (n:Int),yA.l1 x n 0 0 0 0 0 0 false 0 1 0 0 0 false []=yA.l1a x n 0 0 0 0 0 0 false 0 1 0 0 0 false [] [] [] [] [] [] [] [] [] []:=fun x n=>by rw[yA.l1_eq,yA.l1a_eq];simp only[yA.l2_eq,yA.l2a_eq,cond_true]
  have hL:∀(x:List ByteArray) (i:Int) (y:List ByteArray) (b:Bool),aB.l2 x i y b 0 0 0 0 0 false 0 1 0 0 0 false []=aB.l2a x i y b 0 0 0 0 0 false 0 1 0 0 0 false [] [] [] [] [] [] [] [] [] []:=fun x i y b=>by rw[aB.l2_eq,aB.l2a_eq]
  have hQ:∀(x:List ByteArray),aB.l1 x 0 0 0 0 0 0 false 0 1 0 0 0 false []=aB.l1a x 0 0 0 0 0 0 false 0 1 0 0 0 false [] [] [] [] [] [] [] [] [] []:=fun x=>by rw[aB.l1_eq,aB.l1a_eq];simp only[hL]
  have:=qO1 (segs 59 s) (by omega) (fun t ht=>by have:=hsl.2 t ht;omega) _ 0 (0,1,0,0,0,false,[],[],[],[],[],[],[],[],[],()) [] rfl (xJ2 _) (aK2 _) (by unfold sh60;simp) (by simp) (by simp);simp(disch:=omega)only[ss,szS,hS,hV,hR,hQ,hml];exact this
inductive Up where
 | fr (x:Int)
 | iv (x:Int)
 | ct (x:Int)
 | un (x:Int)
 | dy (x:List Dy)
 | wk (x:Int)
 | mo (x:List Int)
 | we (x:List Int)
 | yd (x:List Int)
 | md (x:List Int)
 | ho (x:List Int)
 | mi (x:List Int)
 | se (x:List Int)
 | po (x:List Int)
def Up.key :Up→List UInt8
 | .fr _=>[70,82,69,81]
 | .iv _=>[73,78,84,69,82,86,65,76]
 | .ct _=>[67,79,85,78,84]
 | .un _=>[85,78,84,73,76]
 | .dy _=>[66,89,68,65,89]
 | .wk _=>[87,75,83,84]
 | .mo _=>[66,89,77,79,78,84,72]
 | .we _=>[66,89,87,69,69,75,78,79]
 | .yd _=>[66,89,89,69,65,82,68,65,89]
 | .md _=>[66,89,77,79,78,84,72,68,65,89]
 | .ho _=>[66,89,72,79,85,82]
 | .mi _=>[66,89,77,73,78,85,84,69]
 | .se _=>[66,89,83,69,67,79,78,68]
 | .po _=>[66,89,83,69,84,80,79,83]
def Up.ap :Up→Rl→Rl
 | .fr x,(_,r1,r2,r3,r4,r5,r6,r7,r8,r9,r10,r11,r12,r13,r14,())=>(x,r1,r2,r3,r4,r5,r6,r7,r8,r9,r10,r11,r12,r13,r14,())
 | .iv x,(r0,_,r2,r3,r4,r5,r6,r7,r8,r9,r10,r11,r12,r13,r14,())=>(r0,x,r2,r3,r4,r5,r6,r7,r8,r9,r10,r11,r12,r13,r14,())
 | .ct x,(r0,r1,_,r3,r4,r5,r6,r7,r8,r9,r10,r11,r12,r13,r14,())=>(r0,r1,x,r3,r4,r5,r6,r7,r8,r9,r10,r11,r12,r13,r14,())
 | .un x,(r0,r1,r2,_,r4,_,r6,r7,r8,r9,r10,r11,r12,r13,r14,())=>(r0,r1,r2,x,r4,true,r6,r7,r8,r9,r10,r11,r12,r13,r14,())
 | .dy x,(r0,r1,r2,r3,r4,r5,r6,r7,r8,r9,_,r11,r12,r13,r14,())=>(r0,r1,r2,r3,r4,r5,r6,r7,r8,r9,x,r11,r12,r13,r14,())
 | .wk x,(r0,r1,r2,r3,_,r5,r6,r7,r8,r9,r10,r11,r12,r13,r14,())=>(r0,r1,r2,r3,x,r5,r6,r7,r8,r9,r10,r11,r12,r13,r14,())
 | .mo x,(r0,r1,r2,r3,r4,r5,_,r7,r8,r9,r10,r11,r12,r13,r14,())=>(r0,r1,r2,r3,r4,r5,x,r7,r8,r9,r10,r11,r12,r13,r14,())
 | .we x,(r0,r1,r2,r3,r4,r5,r6,_,r8,r9,r10,r11,r12,r13,r14,())=>(r0,r1,r2,r3,r4,r5,r6,x,r8,r9,r10,r11,r12,r13,r14,())
 | .yd x,(r0,r1,r2,r3,r4,r5,r6,r7,_,r9,r10,r11,r12,r13,r14,())=>(r0,r1,r2,r3,r4,r5,r6,r7,x,r9,r10,r11,r12,r13,r14,())
 | .md x,(r0,r1,r2,r3,r4,r5,r6,r7,r8,_,r10,r11,r12,r13,r14,())=>(r0,r1,r2,r3,r4,r5,r6,r7,r8,x,r10,r11,r12,r13,r14,())
 | .ho x,(r0,r1,r2,r3,r4,r5,r6,r7,r8,r9,r10,_,r12,r13,r14,())=>(r0,r1,r2,r3,r4,r5,r6,r7,r8,r9,r10,x,r12,r13,r14,())
 | .mi x,(r0,r1,r2,r3,r4,r5,r6,r7,r8,r9,r10,r11,_,r13,r14,())=>(r0,r1,r2,r3,r4,r5,r6,r7,r8,r9,r10,r11,x,r13,r14,())
 | .se x,(r0,r1,r2,r3,r4,r5,r6,r7,r8,r9,r10,r11,r12,_,r14,())=>(r0,r1,r2,r3,r4,r5,r6,r7,r8,r9,r10,r11,r12,x,r14,())
 | .po x,(r0,r1,r2,r3,r4,r5,r6,r7,r8,r9,r10,r11,r12,r13,_,())=>(r0,r1,r2,r3,r4,r5,r6,r7,r8,r9,r10,r11,r12,r13,x,())
def cP (name v:List UInt8):Prop:=(∃u:Up,u.key=name ∧ ∀r:Rl,iA.f r (mkS name) (mkS v)=some (true,u.ap r,()))∨(∀r:Rl,∃r1,iA.f r (mkS name) (mkS v)=some (false,r1,()))
theorem mL {α:Type} (name v:List UInt8) (hv:v.length≤50000) (X:Option α) (g:α→Bool) (u:α→Up) (hk:∀a,(u a).key=name)
  (h:∀r:Rl,iA.f r (mkS name) (mkS v)=X.bind fun t=>some (g t,(u t).ap r,())):cP name v:=by
 cases X with
 | none=>
  have h0:=h zR;rcases tF1 0 0 0 0 0 false [] [] [] [] [] [] [] [] [] name v hv with⟨r',e,_⟩ | ⟨r1,r2,e,_⟩
  ·rw[show zR=(0,0,0,0,0,false,[],[],[],[],[],[],[],[],[],())from rfl,e]at h0;cases h0
  ·rw[show zR=(0,0,0,0,0,false,[],[],[],[],[],[],[],[],[],())from rfl,e]at h0;cases h0
 | some a=>
  cases hg:g a with
  | true=>exact .inl ⟨u a,hk a,fun r=>by rw[h r,qJ2,hg]⟩
  | false=>exact .inr fun r=>⟨(u a).ap r,by rw[h r,qJ2,hg]⟩
theorem oM1 (v:List UInt8) (r:Rl):iA.f r (mkS [70,82,69,81]) (mkS v)=((rA.f (fw.map mkS) (mkS v))).bind fun t=>some ((fun t=>decide (w6 (t.1+1)>0)) t,(show Up from(fun t=>.fr (w6 (t.1+1))) t).ap r,()):=by obtain⟨r0,r1,r2,r3,r4,r5,r6,r7,r8,r9,r10,r11,r12,r13,r14,⟨⟩⟩:=r;rw[iA.f_eq];simp(disch:=decide)only[kE,nm0,nm1,nm2,nm3,nm4,nm5,nm6,nm7,nm8,nm9,nm10,nm11,nm12,nm13,dm,dp,dn,cond_true,cond_false];rw[zD1];rfl
theorem wB2 (v:List UInt8) (hv:v.length≤50000):cP [70,82,69,81] v:=mL [70,82,69,81] v hv ((rA.f (fw.map mkS) (mkS v))) (fun t=>decide (w6 (t.1+1)>0)) (fun t=>.fr (w6 (t.1+1))) (fun _=>rfl) (oM1 v)
theorem zT (v:List UInt8) (r:Rl):iA.f r (mkS [73,78,84,69,82,86,65,76]) (mkS v)=(vE.f (mkS v)).bind fun t=>some ((fun t=>t.2.1) t,(show Up from(fun t=>.iv t.1) t).ap r,()):=by obtain⟨r0,r1,r2,r3,r4,r5,r6,r7,r8,r9,r10,r11,r12,r13,r14,⟨⟩⟩:=r;rw[iA.f_eq];simp(disch:=decide)only[kE,nm0,nm1,nm2,nm3,nm4,nm5,nm6,nm7,nm8,nm9,nm10,nm11,nm12,nm13,dm,dp,dn,cond_true,cond_false];rfl
theorem qJ1 (v:List UInt8) (hv:v.length≤50000):cP [73,78,84,69,82,86,65,76] v:=mL [73,78,84,69,82,86,65,76] v hv (vE.f (mkS v)) (fun t=>t.2.1) (fun t=>.iv t.1) (fun _=>rfl) (zT v)
theorem pG1 (v:List UInt8) (r:Rl):iA.f r (mkS [67,79,85,78,84]) (mkS v)=(vE.f (mkS v)).bind fun t=>some ((fun t=>t.2.1) t,(show Up from(fun t=>.ct t.1) t).ap r,()):=by obtain⟨r0,r1,r2,r3,r4,r5,r6,r7,r8,r9,r10,r11,r12,r13,r14,⟨⟩⟩:=r;rw[iA.f_eq];simp(disch:=decide)only[kE,nm0,nm1,nm2,nm3,nm4,nm5,nm6,nm7,nm8,nm9,nm10,nm11,nm12,nm13,dm,dp,dn,cond_true,cond_false];rfl
theorem mW1 (v:List UInt8) (hv:v.length≤50000):cP [67,79,85,78,84] v:=mL [67,79,85,78,84] v hv (vE.f (mkS v)) (fun t=>t.2.1) (fun t=>.ct t.1) (fun _=>rfl) (pG1 v)
theorem pF1 (v:List UInt8) (r:Rl):iA.f r (mkS [85,78,84,73,76]) (mkS v)=(gB.f (mkS v)).bind fun t=>some ((fun t=>decide (t.2.1=0)) t,(show Up from(fun t=>.un t.1) t).ap r,()):=by obtain⟨r0,r1,r2,r3,r4,r5,r6,r7,r8,r9,r10,r11,r12,r13,r14,⟨⟩⟩:=r;rw[iA.f_eq];simp(disch:=decide)only[kE,nm0,nm1,nm2,nm3,nm4,nm5,nm6,nm7,nm8,nm9,nm10,nm11,nm12,nm13,dm,dp,dn,cond_true,cond_false];rfl
theorem nY1 (v:List UInt8) (hv:v.length≤50000):cP [85,78,84,73,76] v:=mL [85,78,84,73,76] v hv (gB.f (mkS v)) (fun t=>decide (t.2.1=0)) (fun t=>.un t.1) (fun _=>rfl) (pF1 v)
theorem tE1 (v:List UInt8) (r:Rl):iA.f r (mkS [66,89,68,65,89]) (mkS v)=(zC.f (mkS v)).bind fun t=>some ((fun t=>t.2.1) t,(show Up from(fun t=>.dy t.1) t).ap r,()):=by obtain⟨r0,r1,r2,r3,r4,r5,r6,r7,r8,r9,r10,r11,r12,r13,r14,⟨⟩⟩:=r;rw[iA.f_eq];simp(disch:=decide)only[kE,nm0,nm1,nm2,nm3,nm4,nm5,nm6,nm7,nm8,nm9,nm10,nm11,nm12,nm13,dm,dp,dn,cond_true,cond_false];rfl
theorem dZ1 (v:List UInt8) (hv:v.length≤50000):cP [66,89,68,65,89] v:=mL [66,89,68,65,89] v hv (zC.f (mkS v)) (fun t=>t.2.1) (fun t=>.dy t.1) (fun _=>rfl) (tE1 v)
theorem nM1 (v:List UInt8) (r:Rl):iA.f r (mkS [87,75,83,84]) (mkS v)=((rA.f (wd.map mkS) (mkS v))).bind fun t=>some ((fun t=>decide (t.1≥0)) t,(show Up from(fun t=>.wk t.1) t).ap r,()):=by obtain⟨r0,r1,r2,r3,r4,r5,r6,r7,r8,r9,r10,r11,r12,r13,r14,⟨⟩⟩:=r;rw[iA.f_eq];simp(disch:=decide)only[kE,nm0,nm1,nm2,nm3,nm4,nm5,nm6,nm7,nm8,nm9,nm10,nm11,nm12,nm13,dm,dp,dn,cond_true,cond_false];rw[yI];rfl
theorem rE2 (v:List UInt8) (hv:v.length≤50000):cP [87,75,83,84] v:=mL [87,75,83,84] v hv ((rA.f (wd.map mkS) (mkS v))) (fun t=>decide (t.1≥0)) (fun t=>.wk t.1) (fun _=>rfl) (nM1 v)
theorem kW (v:List UInt8) (r:Rl):iA.f r (mkS [66,89,77,79,78,84,72]) (mkS v)=(eC.f (mkS v)).bind fun t=>some ((fun t=>t.2.1) t,(show Up from(fun t=>.mo t.1) t).ap r,()):=by obtain⟨r0,r1,r2,r3,r4,r5,r6,r7,r8,r9,r10,r11,r12,r13,r14,⟨⟩⟩:=r;rw[iA.f_eq];simp(disch:=decide)only[kE,nm0,nm1,nm2,nm3,nm4,nm5,nm6,nm7,nm8,nm9,nm10,nm11,nm12,nm13,dm,dp,dn,cond_true,cond_false];rw[iA.l1_eq];rfl
theorem uN1 (v:List UInt8) (hv:v.length≤50000):cP [66,89,77,79,78,84,72] v:=mL [66,89,77,79,78,84,72] v hv (eC.f (mkS v)) (fun t=>t.2.1) (fun t=>.mo t.1) (fun _=>rfl) (kW v)
theorem gU (v:List UInt8) (r:Rl):iA.f r (mkS [66,89,87,69,69,75,78,79]) (mkS v)=(eC.f (mkS v)).bind fun t=>some ((fun t=>t.2.1) t,(show Up from(fun t=>.we t.1) t).ap r,()):=by obtain⟨r0,r1,r2,r3,r4,r5,r6,r7,r8,r9,r10,r11,r12,r13,r14,⟨⟩⟩:=r;rw[iA.f_eq];simp(disch:=decide)only[kE,nm0,nm1,nm2,nm3,nm4,nm5,nm6,nm7,nm8,nm9,nm10,nm11,nm12,nm13,dm,dp,dn,cond_true,cond_false];rw[iA.l1a_eq];rfl
theorem qI1 (v:List UInt8) (hv:v.length≤50000):cP [66,89,87,69,69,75,78,79] v:=mL [66,89,87,69,69,75,78,79] v hv (eC.f (mkS v)) (fun t=>t.2.1) (fun t=>.we t.1) (fun _=>rfl) (gU v)
theorem pQ (v:List UInt8) (r:Rl):iA.f r (mkS [66,89,89,69,65,82,68,65,89]) (mkS v)=(eC.f (mkS v)).bind fun t=>some ((fun t=>t.2.1) t,(show Up from(fun t=>.yd t.1) t).ap r,()):=by obtain⟨r0,r1,r2,r3,r4,r5,r6,r7,r8,r9,r10,r11,r12,r13,r14,⟨⟩⟩:=r;rw[iA.f_eq];simp(disch:=decide)only[kE,nm0,nm1,nm2,nm3,nm4,nm5,nm6,nm7,nm8,nm9,nm10,nm11,nm12,nm13,dm,dp,dn,cond_true,cond_false];rw[iA.l1b_eq];rfl
theorem gF1 (v:List UInt8) (hv:v.length≤50000):cP [66,89,89,69,65,82,68,65,89] v:=mL [66,89,89,69,65,82,68,65,89] v hv (eC.f (mkS v)) (fun t=>t.2.1) (fun t=>.yd t.1) (fun _=>rfl) (pQ v)
theorem eP (v:List UInt8) (r:Rl):iA.f r (mkS [66,89,77,79,78,84,72,68,65,89]) (mkS v)=(eC.f (mkS v)).bind fun t=>some ((fun t=>t.2.1) t,(show Up from(fun t=>.md t.1) t).ap r,()):=by obtain⟨r0,r1,r2,r3,r4,r5,r6,r7,r8,r9,r10,r11,r12,r13,r14,⟨⟩⟩:=r;rw[iA.f_eq];simp(disch:=decide)only[kE,nm0,nm1,nm2,nm3,nm4,nm5,nm6,nm7,nm8,nm9,nm10,nm11,nm12,nm13,dm,dp,dn,cond_true,cond_false];rw[iA.l1c_eq];rfl
theorem iC1 (v:List UInt8) (hv:v.length≤50000):cP [66,89,77,79,78,84,72,68,65,89] v:=mL [66,89,77,79,78,84,72,68,65,89] v hv (eC.f (mkS v)) (fun t=>t.2.1) (fun t=>.md t.1) (fun _=>rfl) (eP v)
theorem sZ (v:List UInt8) (r:Rl):iA.f r (mkS [66,89,72,79,85,82]) (mkS v)=(eC.f (mkS v)).bind fun t=>some ((fun t=>t.2.1) t,(show Up from(fun t=>.ho t.1) t).ap r,()):=by obtain⟨r0,r1,r2,r3,r4,r5,r6,r7,r8,r9,r10,r11,r12,r13,r14,⟨⟩⟩:=r;rw[iA.f_eq];simp(disch:=decide)only[kE,nm0,nm1,nm2,nm3,nm4,nm5,nm6,nm7,nm8,nm9,nm10,nm11,nm12,nm13,dm,dp,dn,cond_true,cond_false];rw[iA.l1d_eq];rfl
theorem cS1 (v:List UInt8) (hv:v.length≤50000):cP [66,89,72,79,85,82] v:=mL [66,89,72,79,85,82] v hv (eC.f (mkS v)) (fun t=>t.2.1) (fun t=>.ho t.1) (fun _=>rfl) (sZ v)
theorem iT (v:List UInt8) (r:Rl):iA.f r (mkS [66,89,77,73,78,85,84,69]) (mkS v)=(eC.f (mkS v)).bind fun t=>some ((fun t=>t.2.1) t,(show Up from(fun t=>.mi t.1) t).ap r,()):=by obtain⟨r0,r1,r2,r3,r4,r5,r6,r7,r8,r9,r10,r11,r12,r13,r14,⟨⟩⟩:=r;rw[iA.f_eq];simp(disch:=decide)only[kE,nm0,nm1,nm2,nm3,nm4,nm5,nm6,nm7,nm8,nm9,nm10,nm11,nm12,nm13,dm,dp,dn,cond_true,cond_false];rw[iA.l1e_eq];rfl
theorem mJ1 (v:List UInt8) (hv:v.length≤50000):cP [66,89,77,73,78,85,84,69] v:=mL [66,89,77,73,78,85,84,69] v hv (eC.f (mkS v)) (fun t=>t.2.1) (fun t=>.mi t.1) (fun _=>rfl) (iT v)
theorem vT (v:List UInt8) (r:Rl):iA.f r (mkS [66,89,83,69,67,79,78,68]) (mkS v)=(eC.f (mkS v)).bind fun t=>some ((fun t=>t.2.1) t,(show Up from(fun t=>.se t.1) t).ap r,()):=by obtain⟨r0,r1,r2,r3,r4,r5,r6,r7,r8,r9,r10,r11,r12,r13,r14,⟨⟩⟩:=r;rw[iA.f_eq];simp(disch:=decide)only[kE,nm0,nm1,nm2,nm3,nm4,nm5,nm6,nm7,nm8,nm9,nm10,nm11,nm12,nm13,dm,dp,dn,cond_true,cond_false];rw[iA.l1f_eq];rfl
theorem cI1 (v:List UInt8) (hv:v.length≤50000):cP [66,89,83,69,67,79,78,68] v:=mL [66,89,83,69,67,79,78,68] v hv (eC.f (mkS v)) (fun t=>t.2.1) (fun t=>.se t.1) (fun _=>rfl) (vT v)
theorem pT (v:List UInt8) (r:Rl):iA.f r (mkS [66,89,83,69,84,80,79,83]) (mkS v)=(eC.f (mkS v)).bind fun t=>some ((fun t=>t.2.1) t,(show Up from(fun t=>.po t.1) t).ap r,()):=by obtain⟨r0,r1,r2,r3,r4,r5,r6,r7,r8,r9,r10,r11,r12,r13,r14,⟨⟩⟩:=r;rw[iA.f_eq];simp(disch:=decide)only[kE,nm0,nm1,nm2,nm3,nm4,nm5,nm6,nm7,nm8,nm9,nm10,nm11,nm12,nm13,dm,dp,dn,cond_true,cond_false];rw[iA.l1g_eq];rfl
theorem nJ1 (v:List UInt8) (hv:v.length≤50000):cP [66,89,83,69,84,80,79,83] v:=mL [66,89,83,69,84,80,79,83] v hv (eC.f (mkS v)) (fun t=>t.2.1) (fun t=>.po t.1) (fun _=>rfl) (pT v)
theorem cB2 (name v:List UInt8) (hv:v.length≤50000):cP name v:=by
 by_cases h0:name=[70,82,69,81]
 ·subst h0;exact wB2 v hv
 by_cases h1:name=[73,78,84,69,82,86,65,76]
 ·subst h1;exact qJ1 v hv
 by_cases h2:name=[67,79,85,78,84]
 ·subst h2;exact mW1 v hv
 by_cases h3:name=[85,78,84,73,76]
 ·subst h3;exact nY1 v hv
 by_cases h4:name=[66,89,68,65,89]
 ·subst h4;exact dZ1 v hv
 by_cases h5:name=[87,75,83,84]
 ·subst h5;exact rE2 v hv
 by_cases h6:name=[66,89,77,79,78,84,72]
 ·subst h6;exact uN1 v hv
 by_cases h7:name=[66,89,87,69,69,75,78,79]
 ·subst h7;exact qI1 v hv
 by_cases h8:name=[66,89,89,69,65,82,68,65,89]
 ·subst h8;exact gF1 v hv
 by_cases h9:name=[66,89,77,79,78,84,72,68,65,89]
 ·subst h9;exact iC1 v hv
 by_cases h10:name=[66,89,72,79,85,82]
 ·subst h10;exact cS1 v hv
 by_cases h11:name=[66,89,77,73,78,85,84,69]
 ·subst h11;exact mJ1 v hv
 by_cases h12:name=[66,89,83,69,67,79,78,68]
 ·subst h12;exact cI1 v hv
 by_cases h13:name=[66,89,83,69,84,80,79,83]
 ·subst h13;exact nJ1 v hv
 refine .inr fun r=>?_
 rw[iA.f_eq];simp only[kE,nm0,nm1,nm2,nm3,nm4,nm5,nm6,nm7,nm8,nm9,nm10,nm11,nm12,nm13,dm,dn h0,dn h1,dn h2,dn h3,dn h4,dn h5,dn h6,dn h7,dn h8,dn h9,dn h10,dn h11,dn h12,dn h13,cond_false];rw[iA.l1h_eq];exact⟨_,rfl⟩
def Good (s:List UInt8) (u:Up):Prop:=∃b,s=u.key++61::b∧(61:UInt8)∉u.key ∧ ∀r:Rl,iA.f r (mkS u.key) (mkS b)=some (true,u.ap r,())
def Bad (s:List UInt8):Prop:=∀a b,s=a++61::b→(61:UInt8)∉a → ∀r:Rl,∃r1,iA.f r (mkS a) (mkS b)=some (false,r1,())
theorem rR {c:UInt8}:∀{a a' b b':List UInt8},a++c::b=a'++c::b'→c∉a→c∉a'→a=a'∧b=b'
 | [],[],b,b',h,_,_=>by simpa using h
 | [],x::a',b,b',h,_,h2=>by simp at h;exact absurd (h.1 ▸ zJ2 ..) h2
 | x::a,[],b,b',h,h1,_=>by simp at h;exact absurd (h.1 ▸ zJ2 ..) h1
 | x::a,y::a',b,b',h,h1,h2=>by simp at h;obtain⟨e,h⟩:=h;obtain⟨e1,e2⟩:=rR h (fun q=>h1 (wJ2 _ q)) (fun q=>h2 (wJ2 _ q));exact⟨by rw[e,e1],e2⟩
theorem uC2 (s:List UInt8) (hs:s.length≤50000):(∃u,Good s u)∨Bad s:=by
 rcases mI (c:=(61:UInt8)) (l:=s)with hno | ⟨a,b,hab,ha⟩
 ·exact .inr fun a b e _=>absurd (by rw[e];simp) hno
 ·have hb:b.length≤50000:=by rw[hab]at hs;simp at hs;omega
  rcases cB2 a b hb with⟨u,hk,h⟩ | h
  ·subst hk;exact .inl ⟨u,b,hab,ha,h⟩
  ·refine .inr fun a' b' e ha'=>?_
   obtain⟨e1,e2⟩:=rR (hab ▸ e) ha ha';subst e1 e2;exact h
theorem yX1 {s:List UInt8} {u:Up} (h:Good s u) (g:Bad s):False:=by obtain⟨b,e,hn,h⟩:=h;obtain⟨r1,h1⟩:=g _ _ e hn zR;rw[h zR]at h1;cases h1
theorem lV1 {s:List UInt8} {u w:Up} (h:Good s u) (g:Good s w):u.key=w.key ∧ ∀r:Rl,u.ap r=w.ap r:=by obtain⟨b,e,hn,h⟩:=h;obtain⟨b',e',hn',g⟩:=g;obtain⟨e1,e2⟩:=rR (e ▸ e') hn hn';refine⟨e1,fun r=>?_⟩;subst e2;have:=h r;rw[e1,g r]at this;exact(Prod.mk.inj (Prod.mk.inj (rK2 this)).2).1.symm
def keys (us:List Up):List (List UInt8):=us.map Up.key
def pJ (r:Rl) (us:List Up):Rl:=us.foldl (fun r u=>u.ap r) r
noncomputable def fin (r:Rl) (ms:List (List UInt8)):Option (Rl×Int×Int×Unit):=
 if FREQ∈ms then(vA.f r).bind fun t=>bif !t.1 then some (zR,0,1,())else some (r,0,0,())else some (zR,0,7,())
theorem gV1 (p:List (List UInt8)) (hp:p.length≤10000) (hpl:∀s∈p,s.length≤5000):∀(k i:Nat) (r:Rl) (ms:List (List UInt8)),p.length-i=k→i≤p.length→ms.length≤i →
  (∀us,All2 Good (p.drop i) us→(∀u∈us,u.key∉ms)→(keys us).Nodup→PA p i r ms=fin (pJ r us) (ms++keys us)) ∧
  ((¬ ∃us,All2 Good (p.drop i) us∧(∀u∈us,u.key∉ms)∧(keys us).Nodup) → ∃n:Nat,PA p i r ms=some (zR,(n:Int),4,())):=by
 have hlim:pC=17179869184:=rfl;have hml:(p.map mkS).length=p.length:=vJ2 ..;intro k
 induction k with
 | zero=>
  intro i r ms hk hil hms;have e:i=p.length:=by omega
  subst e;rw[fL2];refine⟨fun us hus _ _=>?_,fun h=>absurd ⟨[],trivial,by simp,by simp[keys]⟩ h⟩
  cases us with
  | cons _ _=>exact hus.elim
  | nil=>
   have hC:aC.f (ms.map mkS) ⟨#[70,82,69,81]⟩=some (decide (FREQ∈ms),()):=xJ ms FREQ (by omega);have hk0:ms++keys []=ms:=by simp[keys]
   rw[hk0];unfold PA;rw[yA.l1a_eq];simp(disch:=omega)only[ss,hml,hC];unfold fin;by_cases c:FREQ∈ms
   ·rw[dp c,if_pos c];rfl
   ·rw[dn c,if_neg c];rfl
 | succ k ih=>
  intro i r ms hk hil hms;have hlt:i<p.length:=by omega
  have hg:=gm p i hlt;have hsl:=hpl _ (yC [] hlt);have pt:∀x9:ByteArray,yA.l2a i x9 (p.map mkS) p.length i true 0 0 0 0 0 false r.1 r.2.1 r.2.2.1 r.2.2.2.1 r.2.2.2.2.1 r.2.2.2.2.2.1 r.2.2.2.2.2.2.1 r.2.2.2.2.2.2.2.1 r.2.2.2.2.2.2.2.2.1 r.2.2.2.2.2.2.2.2.2.1 r.2.2.2.2.2.2.2.2.2.2.1 r.2.2.2.2.2.2.2.2.2.2.2.1 r.2.2.2.2.2.2.2.2.2.2.2.2.1 r.2.2.2.2.2.2.2.2.2.2.2.2.2.1 r.2.2.2.2.2.2.2.2.2.2.2.2.2.2.1 (ms.map mkS)=some (zR,(i:Int),4,()):=fun x9=>by rw[yA.l2a_eq,cond_true];rfl
  rw[qC [] hlt];generalize hs:p.getD i []=s at hg hsl;have wR:PA p i r ms=PA p i r ms:=rfl;unfold PA at wR;rcases mI (c:=(61:UInt8)) (l:=s)with hno | ⟨a,b,hab,ha⟩
  ·have hc:dE.f (mkS s) ⟨#[61]⟩=some (mkS s,mkS [],false,()):=tU (s:=mkS s) (c:=61) hno;refine⟨fun us hus _ _=>?_,fun _=>⟨i,?_⟩⟩
   ·cases us with
    | nil=>exact hus.elim
    | cons u us=>
     obtain⟨b,e,_⟩:=hus.1;exact absurd (by rw[e];simp) hno
   ·unfold PA;rw[yA.l1a_eq];simp(disch:=omega)only[ss,hml,hg];rw[hc];simp(disch:=omega)only[ss,pt]
  ·have hab2:a.length+b.length≤5000:=by rw[hab]at hsl;simp at hsl;omega
   have hc:dE.f (mkS s) ⟨#[61]⟩=some (mkS a,mkS b,true,()):=by rw[hab];exact aV (c:=61) (by omega) ha
   have hK:=xJ ms a (by omega)
   have gk:∀u,Good s u→u.key=a:=fun u h=>by obtain⟨b',e,hn,_⟩:=h;exact(rR (hab ▸ e) ha hn).1.symm
   by_cases c:a∈ms
   ·refine⟨fun us hus hm _=>?_,fun _=>⟨i,?_⟩⟩
    ·cases us with
     | nil=>exact hus.elim
     | cons u us=>exact absurd ((gk u hus.1).symm ▸ c) (hm u (by simp))
    ·unfold PA;rw[yA.l1a_eq];simp(disch:=omega)only[ss,hml,hg];rw[hc];simp(disch:=omega)only[ss,hK,dp c];exact pt _
   ·have step:∀x,PA p i r ms=x↔((iA.f (r.1,r.2.1,r.2.2.1,r.2.2.2.1,r.2.2.2.2.1,r.2.2.2.2.2.1,r.2.2.2.2.2.2.1,r.2.2.2.2.2.2.2.1,r.2.2.2.2.2.2.2.2.1,r.2.2.2.2.2.2.2.2.2.1,r.2.2.2.2.2.2.2.2.2.2.1,r.2.2.2.2.2.2.2.2.2.2.2.1,r.2.2.2.2.2.2.2.2.2.2.2.2.1,r.2.2.2.2.2.2.2.2.2.2.2.2.2.1,r.2.2.2.2.2.2.2.2.2.2.2.2.2.2.1,()) (mkS a) (mkS b)).bind fun t9=>bif !t9.1 then(some (zR,(i:Int),4,()))else PA p (i+1) t9.2.1 (ms++[a]))=x:=fun x=>by
     have e1:ms.map mkS++[mkS a]=(ms++[a]).map mkS:=by simp
     have:PA p i r ms=((iA.f (r.1,r.2.1,r.2.2.1,r.2.2.2.1,r.2.2.2.2.1,r.2.2.2.2.2.1,r.2.2.2.2.2.2.1,r.2.2.2.2.2.2.2.1,r.2.2.2.2.2.2.2.2.1,r.2.2.2.2.2.2.2.2.2.1,r.2.2.2.2.2.2.2.2.2.2.1,r.2.2.2.2.2.2.2.2.2.2.2.1,r.2.2.2.2.2.2.2.2.2.2.2.2.1,r.2.2.2.2.2.2.2.2.2.2.2.2.2.1,r.2.2.2.2.2.2.2.2.2.2.2.2.2.2.1,()) (mkS a) (mkS b)).bind fun t9=>bif !t9.1 then(some (zR,(i:Int),4,()))else PA p (i+1) t9.2.1 (ms++[a])):=by
      unfold PA;rw[yA.l1a_eq];simp(disch:=omega)only[ss,hml,hg];rw[hc];simp(disch:=omega)only[ss,hK,dn c]
      congr 1
      funext t9
      rw[yA.l2a_eq]
      cases t9.1 with
      | false=>rfl
      | true=>
       simp(disch:=omega)only[ss,vJ2,sJ2,hlim];rw[e1];rfl
     rw[this]
    rcases uC2 s (by omega)with⟨u,hu⟩ | hbad
    ·have hk':=gk u hu;obtain⟨b',e,hn,hu'⟩:=id hu;have e2:=(rR (hab ▸ e) ha hn).2;subst e2;have hpart:iA.f (r.1,r.2.1,r.2.2.1,r.2.2.2.1,r.2.2.2.2.1,r.2.2.2.2.2.1,r.2.2.2.2.2.2.1,r.2.2.2.2.2.2.2.1,r.2.2.2.2.2.2.2.2.1,r.2.2.2.2.2.2.2.2.2.1,r.2.2.2.2.2.2.2.2.2.2.1,r.2.2.2.2.2.2.2.2.2.2.2.1,r.2.2.2.2.2.2.2.2.2.2.2.2.1,r.2.2.2.2.2.2.2.2.2.2.2.2.2.1,r.2.2.2.2.2.2.2.2.2.2.2.2.2.2.1,()) (mkS a) (mkS b)=some (true,u.ap r,()):=by rw[←hk'];exact hu' r
     have go:PA p i r ms=PA p (i+1) (u.ap r) (ms++[a]):=(step _).2 (by rw[hpart];rfl);obtain⟨n1,n2⟩:=ih (i+1) (u.ap r) (ms++[a]) (by omega) (by omega) (by simp;omega);refine⟨fun us hus hm hnd=>?_,fun h=>?_⟩
     ·cases us with
      | nil=>exact hus.elim
      | cons w us=>
       obtain⟨ew,ef⟩:=lV1 hus.1 hu;have hnd':w.key∉keys us∧(keys us).Nodup:=oM2.1 hnd
       have:=n1 us hus.2 (fun v hv q=>by
        rcases gK2.1 q with q | q
        ·exact hm v (wJ2 _ hv) q
        ·rw[vK2]at q
         exact hnd'.1 (by rw[ew,hk',←q];exact nK2.2 ⟨v,hv,rfl⟩)) hnd'.2
       rw[go,this,eK2];show fin (pJ (u.ap r) us) (ms++([a]++keys us))=fin (pJ (w.ap r) us) (ms++(w.key::keys us));rw[ew,hk',ef r];rfl
     ·rw[go];refine n2 fun⟨us,h1,h2,h3⟩=>h ⟨u::us,⟨hu,h1⟩,?_,?_⟩
      ·intro v hv q;rcases uJ2.1 hv with e | hv
       ·subst e;exact c (hk' ▸ q)
       ·exact h2 v hv (lK2 _ q)
      ·refine oM2.2 ⟨fun q=>?_,h3⟩;obtain⟨v,hv,e⟩:=nK2.1 q;exact h2 v hv (by rw[e,hk'];simp)
    ·refine⟨fun us hus _ _=>?_,fun _=>⟨i,?_⟩⟩
     ·cases us with
      | nil=>exact hus.elim
      | cons u us=>exact(yX1 hus.1 hbad).elim
     ·obtain⟨r1,h1⟩:=hbad a b hab ha r;refine(step _).2 ?_;rw[show iA.f (r.1,r.2.1,r.2.2.1,r.2.2.2.1,r.2.2.2.2.1,r.2.2.2.2.2.1,r.2.2.2.2.2.2.1,r.2.2.2.2.2.2.2.1,r.2.2.2.2.2.2.2.2.1,r.2.2.2.2.2.2.2.2.2.1,r.2.2.2.2.2.2.2.2.2.2.1,r.2.2.2.2.2.2.2.2.2.2.2.1,r.2.2.2.2.2.2.2.2.2.2.2.2.1,r.2.2.2.2.2.2.2.2.2.2.2.2.2.1,r.2.2.2.2.2.2.2.2.2.2.2.2.2.2.1,()) (mkS a) (mkS b)=some (false,r1,())from h1];rfl
def jn (c:UInt8):List (List UInt8)→List UInt8
 | []=>[]
 | [a]=>a
 | a::b::l=>a++c::jn c (b::l)
theorem xB1 (c:UInt8):∀(l:List (List UInt8)) (n:List UInt8),jn c (l++[n])=if l=[]then n else jn c l++c::n
 | [],n=>rfl
 | [m],n=>rfl
 | m::k::l,n=>by have ih:=xB1 c (k::l) n;rw[if_neg (by simp)]at ih;rw[if_neg (by simp)];show m++c::jn c (k::l++[n])=(m++c::jn c (k::l))++c::n;rw[ih];simp
theorem uH1 (c:UInt8):∀(l:List (List UInt8)),l≠[]→(∀s∈l,c∉s)→segs c (jn c l)=l
 | [],h,_=>absurd rfl h
 | [n],_,h=>nJ (h n (by simp))
 | n::m::l,_,h=>by show segs c (n++c::jn c (m::l))=_;rw[qJ (h n (by simp)),uH1 c (m::l) (by simp) fun s hs=>h s (wJ2 _ hs)]
def tot :List (List UInt8)→Nat
 | []=>0
 | a::l=>a.length+tot l
theorem uZ1 (c:UInt8):∀(l:List (List UInt8)),l≠[]→(jn c l).length+1=tot l+l.length
 | [],h=>absurd rfl h
 | [n],_=>by simp[jn,tot]
 | n::m::l,_=>by have:=uZ1 c (m::l) (by simp);show(n++c::jn c (m::l)).length+1=n.length+tot (m::l)+_;rw[pJ2,yJ2,yJ2];omega
theorem zV1 (c:UInt8):∀(l:List (List UInt8)),(jn c l).length≤tot l+l.length
 | []=>xJ2 _
 | a::l=>by have:=uZ1 c (a::l) (by simp);omega
theorem eqI (a:List Int) (ha:a.length≤1000000):tA.f a a=some (true,()):=by
 have key:∀(k i:Nat),a.length-i=k→i≤a.length→tA.l1 a a a.length i=some (true,()):=by
  intro k
  induction k with
  | zero=>
   intro i hk hia;rw[tA.l1_eq];simp(disch:=omega)only[ss]
  | succ k ih=>
   intro i hk hia;rw[tA.l1_eq];simp(disch:=omega)only[ss];exact ih (i+1) (by omega) (by omega)
 rw[tA.f_eq];have:=key _ 0 rfl (xJ2 _);rw[fK2]at this;simp(disch:=omega)only[ss,this]
theorem eqD (a:List Dy) (ha:a.length≤1000000):uA.f a a=some (true,()):=by
 have key:∀(k i:Nat),a.length-i=k→i≤a.length→uA.l1 a a a.length i=some (true,()):=by
  intro k
  induction k with
  | zero=>
   intro i hk hia;rw[uA.l1_eq];simp(disch:=omega)only[ss]
  | succ k ih=>
   intro i hk hia;rw[uA.l1_eq];simp(disch:=omega)only[ss];exact ih (i+1) (by omega) (by omega)
 rw[uA.f_eq];have:=key _ 0 rfl (xJ2 _);rw[fK2]at this;simp(disch:=omega)only[ss,this]
theorem cW1 (s:List UInt8) (hs:s.length≤4096):yA.f (mkS s)=PA (segs 59 s) 0 (0,1,0,0,0,false,[],[],[],[],[],[],[],[],[],()) []:=by
 have hsl:=xM 59 s;have hS:qD.f (mkS s) ⟨#[59]⟩=some ((segs 59 s).map mkS,()):=pK (c:=59) s (by omega);have hml:((segs 59 s).map mkS).length=(segs 59 s).length:=vJ2 ..
 have hR:∀(x:List ByteArray) (n:Int),yA.l1 x n 0 0 0 0 0 0 false 0 1 0 0 0 false []=yA.l1a x n 0 0 0 0 0 0 false 0 1 0 0 0 false [] [] [] [] [] [] [] [] [] []:=fun x n=>by rw[yA.l1_eq,yA.l1a_eq];simp only[yA.l2_eq,yA.l2a_eq,cond_true]
 rw[yA.f_eq];simp(disch:=omega)only[ss,szS,hS,hR,hml];rfl
theorem kV (y:Int) (hy:1≤y):fst_ (y+1)=fst_ y+cum y 13:=by
 unfold fst_ cum cumT
 have e:(if 3≤(13:Int)∧yS y=true then(1:Int)else 0)=y/4-(y-1)/4-(y/100-(y-1)/100)+(y/400-(y-1)/400):=by
  unfold yS;by_cases h1:y%4=0
  ·by_cases h2:y%100=0
   ·by_cases h5:y%400=0
    ·rw[if_pos ⟨by omega,by simp[h1,h2,h5]⟩];omega
    ·rw[if_neg (by simp[h1,h2,h5])];omega
   ·rw[if_pos ⟨by omega,by simp[h1,h2]⟩];omega
  ·rw[if_neg (by simp[h1])];omega
 rw[e];simp;omega
theorem aF2 (y:Int):365≤cum y 13∧cum y 13≤366:=by unfold cum cumT;split <;> (simp;try omega)
theorem tY1 {a b:Int} (h0:1≤a) (h:a<b):fst_ a+365≤fst_ b:=by
 obtain⟨k,hk⟩:=yK2 (show 0≤b-a-1 by omega);have e:b=a+1+(k:Int):=by omega
 subst e;clear hk h
 induction k with
 | zero=>
  have:=kV a h0;have:=aF2 a;simp;omega
 | succ k ih=>
  have:=kV (a+1+(k:Int)) (by omega);have:=aF2 (a+1+(k:Int));rw[show a+1+((k+1:Nat):Int)=a+1+(k:Int)+1 by omega];omega
theorem dM {a b:Int} (h0:1≤a) (h:a≤b):fst_ a≤fst_ b:=by
 rcases Int.lt_or_eq_of_le h with h | h
 ·have:=tY1 h0 h;omega
 ·rw[h];exact Int.le_refl _
theorem eC2 :fst_ 1 = -719162:=by decide
theorem fY :fst_ 10000=2932897:=by decide
theorem vB2 (y:Int):cum y 1=0:=by unfold cum cumT;simp
theorem yK1 (y:Int) {a b:Int} (h0:1≤a) (h:a≤b) (h1:b≤13):cum y a≤cum y b:=by
 obtain⟨k,hk⟩:=yK2 (show 0≤b-a by omega);have e:b=a+(k:Int):=by omega
 subst e;clear hk h
 induction k with
 | zero=>simp
 | succ k ih=>
  have:=ih (by omega);have h2:=vM y (a+(k:Int)) (by omega) (by omega);have:=iQ y (a+(k:Int));rw[show a+((k+1:Nat):Int)=a+(k:Int)+1 by omega,h2];omega
theorem pE2 (n:Int) (h1: -719162≤n) (h2:n≤2932896):∃y,1≤y∧y≤9999∧fst_ y≤n∧n<fst_ (y+1):=by
 have key:∀k:Nat,k≤9999→n<fst_ (1+(k:Int)) → ∃y,1≤y∧y≤9999∧fst_ y≤n∧n<fst_ (y+1):=by
  intro k
  induction k with
  | zero=>
   intro _ h;rw[show(1:Int)+((0:Nat):Int)=1 from rfl,eC2]at h;omega
  | succ k ih=>
   intro hk h;by_cases c:n<fst_ (1+(k:Int))
   ·exact ih (by omega) c
   ·exact⟨1+(k:Int),by omega,by omega,by omega,by rw[show(1:Int)+(k:Int)+1=1+((k+1:Nat):Int) by omega];exact h⟩
 refine key 9999 (aK2 _) ?_;rw[show(1:Int)+((9999:Nat):Int)=10000 from rfl,fY];omega
theorem bX1 (y d:Int) (h1:0≤d) (h2:d<cum y 13):∃m,1≤m∧m≤12∧cum y m≤d∧d<cum y (m+1):=by
 have key:∀k:Nat,k≤12→d<cum y (1+(k:Int)) → ∃m,1≤m∧m≤12∧cum y m≤d∧d<cum y (m+1):=by
  intro k
  induction k with
  | zero=>
   intro _ h;rw[show(1:Int)+((0:Nat):Int)=1 from rfl,vB2]at h;omega
  | succ k ih=>
   intro hk h;by_cases c:d<cum y (1+(k:Int))
   ·exact ih (by omega) c
   ·exact⟨1+(k:Int),by omega,by omega,by omega,by rw[show(1:Int)+(k:Int)+1=1+((k+1:Nat):Int) by omega];exact h⟩
 exact key 12 (aK2 _) h2
def qM1 (n y m d:Int):Prop:=kM y m d=true∧fst_ y+d-1+cum y m=n
theorem gR {y m d:Int}:kM y m d=true↔1≤y∧y≤9999∧1≤d∧d≤mlen y m:=by unfold kM;simp only[tJ2,decide_eq_true_eq,and_assoc]
theorem iU1 {n y m d:Int} (h:qM1 n y m d):fst_ y≤n∧n<fst_ (y+1)∧1≤m∧m≤12 ∧ -719162≤n∧n≤2932896:=by obtain⟨h1,h2⟩:=h;obtain⟨h3,h4,h5,h6⟩:=gR.1 h1;have hm:=(iQ y m).2.2 (by omega);have hc:=vM y m hm.1 hm.2;have hb:=iN y m;have hs:=kV y h3;have hmo:=yK1 y (a:=m+1) (b:=13) (by omega) (by omega) (by omega);have h7:=dM (a:=1) (b:=y) (by omega) h3;have h8:=dM (a:=y+1) (b:=10000) (by omega) (by omega);rw[eC2]at h7;rw[fY]at h8;exact⟨by omega,by omega,hm.1,hm.2,by omega,by omega⟩
theorem kG2 (y d0 M:Int) (hy:1≤y) (hy2:y≤9999) (h1:0≤d0) (h2:M≤12) (h3:cum y M≤d0) (h4:d0<cum y (M+1)):∀(k:Nat) (m:Int),M-m=k→1≤m →
  mB.l5 y (d0-cum y m) m=some (y,M,d0-cum y M+1,0,())∧vC.l2 y (d0-cum y m) m=some (y,M,d0-cum y M+1,0,()):=by
 intro k
 induction k with
 | zero=>
  intro m hk hm;have e:m=M:=by omega
  subst e;have hc:=vM y m hm h2;have hb:=iN y m;have hb2:=iN y (m+1);rw[mB.l5_eq,vC.l2_eq,bQ y m (by omega),kL y m (by omega)];simp(disch:=omega)only[ss,ge_iff_le];exact⟨trivial,trivial⟩
 | succ k ih=>
  intro m hk hm;have hc:=vM y m hm (by omega);have hmo:=yK1 y (a:=m+1) (b:=M) (by omega) (by omega) (by omega);have hb:=iN y m;have hb1:=iN y M;have hb2:=iN y (m+1);have hb3:=iN y (M+1);rw[mB.l5_eq,vC.l2_eq,bQ y m (by omega),kL y m (by omega)];have e:d0-cum y m-mlen y m=d0-cum y (m+1):=by omega
  simp(disch:=omega)only[ss,ge_iff_le];rw[e];exact ih (m+1) (by omega) (by omega)
theorem qW1 (y:Int) (hy:1≤y) (hy2:y≤10000):eG.f y 1 1=some (fst_ y,()):=by
 rw[nT y 1 1 hy hy2 (by omega) (by omega) (by omega) (by omega),vB2]
 congr 2
 omega
theorem zG2 (n Y:Int) (hY:1≤Y) (h1:fst_ Y≤n) (h2:n<fst_ (Y+1)):∀(k:Nat) (z:Int),z-Y=k→z≤9999→mB.l4 n z=mB.l5 Y (n-fst_ Y) 1:=by
 intro k;have hfb:=jT (Y+1) (by omega)
 induction k with
 | zero=>
  intro z hk hz;have e:z=Y:=by omega
  subst e;have hfb:=jT z (by omega) (by omega);have hfb1:=jT (z+1) (by omega) (by omega);rw[mB.l4_eq,qW1 z (by omega) (by omega)];simp(disch:=omega)only[ss,gt_iff_lt]
 | succ k ih=>
  intro z hk hz;have hm:=dM (a:=Y+1) (b:=z) (by omega) (by omega);have hfb:=jT z (by omega) (by omega);rw[mB.l4_eq,qW1 z (by omega) (by omega)];simp(disch:=omega)only[ss,gt_iff_lt];exact ih (z-1) (by omega) (by omega)
theorem tF2 (n Y:Int) (hY:1≤Y) (hY2:Y≤9999) (h1:fst_ Y≤n) (h2:n<fst_ (Y+1)):∀(k:Nat) (y:Int),(Y-y).toNat=k→1≤y→y≤9999 → ∃z,Y≤z∧z≤9999∧mB.l1 n y=mB.l4 n z:=by
 intro k
 induction k with
 | zero=>
  intro y hk hy hy2;refine⟨y,by omega,hy2,?_⟩;rw[mB.l1_eq];by_cases c:y<9999
  ·have hm:=dM (a:=Y+1) (b:=y+1) (by omega) (by omega);have hw:w6 (y+1)=y+1:=wr (by omega) (by omega);rw[hw,qW1 (y+1) (by omega) (by omega)];simp(disch:=omega)only[ss,mB.l2_eq,mB.l3_eq]
  ·simp(disch:=omega)only[ss,mB.l2_eq,mB.l3_eq]
 | succ k ih=>
  intro y hk hy hy2;have hm:=dM (a:=y+1) (b:=Y) (by omega) (by omega);have hw:w6 (y+1)=y+1:=wr (by omega) (by omega);obtain⟨z,z1,z2,z3⟩:=ih (y+1) (by omega) (by omega) (by omega);refine⟨z,z1,z2,?_⟩;rw[mB.l1_eq,hw,qW1 (y+1) (by omega) (by omega)];simp(disch:=omega)only[ss,mB.l2_eq];exact z3
theorem eE2 (n Y:Int) (hY:1≤Y) (hY2:Y≤9999) (h1:fst_ Y≤n) (h2:n<fst_ (Y+1)):∀(k:Nat) (y:Int),Y-y=k→1≤y→vC.l1 n y=vC.l2 Y (n-fst_ Y) 1:=by
 intro k
 induction k with
 | zero=>
  intro y hk hy;have e:y=Y:=by omega
  subst e;have hfb:=jT y (by omega) (by omega);have hfb1:=jT (y+1) (by omega) (by omega);have hw:w6 (y+1)=y+1:=wr (by omega) (by omega);rw[vC.l1_eq,hw,nK (y+1) (by omega) (by omega),nK y (by omega) (by omega)];simp(disch:=omega)only[ss]
 | succ k ih=>
  intro y hk hy;have hm:=dM (a:=y+1) (b:=Y) (by omega) (by omega);have hw:w6 (y+1)=y+1:=wr (by omega) (by omega);rw[vC.l1_eq,hw,nK (y+1) (by omega) (by omega)];simp(disch:=omega)only[ss];exact ih (y+1) (by omega) (by omega)
theorem mS1 (n:Int) (h1: -719162≤n) (h2:n≤2932896):∃y m d,qM1 n y m d∧mB.f n=some (y,m,d,0,())∧vC.f n=some (y,m,d,0,()):=by
 obtain⟨Y,y1,y2,y3,y4⟩:=pE2 n h1 h2;have hs:=kV Y y1;obtain⟨M,m1,m2,m3,m4⟩:=bX1 Y (n-fst_ Y) (by omega) (by omega);have hc:=vM Y M m1 m2;have h5:=kG2 Y (n-fst_ Y) M y1 y2 (by omega) m2 m3 m4 (M-1).toNat 1 (by omega) (by omega);rw[vB2,Int.sub_zero]at h5;refine⟨Y,M,n-fst_ Y-cum Y M+1,⟨gR.2 ⟨y1,y2,by omega,by omega⟩,by omega⟩,?_,?_⟩
 ·have hz1:(n+719162)*400/146097+1≤9999:=by omega
  obtain⟨z,z1,z2,z3⟩:=tF2 n Y y1 y2 y3 y4 _ ((n+719162)*400/146097+1) rfl (by omega) hz1;have h4:=zG2 n Y y1 y3 y4 (z-Y).toNat z (by omega) z2;rw[mB.f_eq,mQ.f_eq];have e1:w6 (n - -719162)=n+719162:=by rw[wr (by omega) (by omega)];omega
  have e2:w6 ((n+719162)*400)=(n+719162)*400:=wr (by omega) (by omega);simp(disch:=omega)only[ss,e1,e2,tdn (show 0≤(n+719162)*400 by omega),ge_iff_le];rw[z3,h4];exact h5.1
 ·have hlow:fst_ (Y+1) ≤ -719162+366*Y:=by unfold fst_;omega
  have hv:=eE2 n Y y1 y2 y3 y4 (Y-((n+719162)/366+1)).toNat ((n+719162)/366+1) (by omega) (by omega);have e1:w6 (n - -719162)=n+719162:=by rw[wr (by omega) (by omega)];omega
  rw[vC.f_eq,yO.f_eq,nK 1 (by omega) (by omega),nK 10000 (by omega) (by omega),eC2,fY];simp(disch:=omega)only[ss,e1,tdn (show 0≤n+719162 by omega),ge_iff_le];rw[hv];exact h5.2
theorem tdm (t k:Int) (hk:0<k):Int.tdiv t k=(if t%k≠0∧t<0 then t/k+1 else t/k)∧Int.tmod t k=(if t%k≠0∧t<0 then t%k-k else t%k):=by
 by_cases h:0≤t
 ·rw[if_neg (by omega),if_neg (by omega)];exact⟨tdn h k,tmn h k⟩
 ·have e:t = -(-t):=by omega
  have h1:Int.tdiv t k = -((-t)/k):=by rw[e,Int.neg_tdiv,tdn (by omega),Int.neg_neg]
  have h2:Int.tmod t k = -((-t)%k):=by rw[e,Int.neg_tmod,tmn (by omega),Int.neg_neg]
  have h3:=Int.emod_add_mul_ediv t k;have h4:=Int.emod_add_mul_ediv (-t) k;have b1:=Int.emod_nonneg t (show k≠0 by omega);have b2:=Int.emod_lt_of_pos t hk;have b3:=Int.emod_nonneg (-t) (show k≠0 by omega);have b4:=Int.emod_lt_of_pos (-t) hk;rw[h1,h2];by_cases hz:t%k=0
  ·rw[if_neg (by omega),if_neg (by omega)];have hz2:(-t)%k=0:=by have:k∣t:=Int.dvd_of_emod_eq_zero hz;exact Int.emod_eq_zero_of_dvd (Int.dvd_neg.2 this)
   have:(-t)/k = -(t/k):=Int.neg_ediv_of_dvd (Int.dvd_of_emod_eq_zero hz);exact⟨by omega,by omega⟩
  ·rw[if_pos ⟨hz,by omega⟩,if_pos ⟨hz,by omega⟩];have hq:(-t)%k=k-t%k:=by
    have e1: -t=(k-t%k)+k*(-(t/k)-1):=by rw[Int.mul_sub,Int.mul_neg];omega
    rw[e1,Int.add_mul_emod_self_left,Int.emod_eq_of_lt (by omega) (by omega)]
   have hd:(-t)/k = -(t/k)-1:=by
    have:k*((-t)/k)=k*(-(t/k)-1):=by rw[Int.mul_sub,Int.mul_neg];omega
    exact Int.eq_of_mul_eq_mul_left (by omega) this
   exact⟨by omega,by omega⟩
theorem tQ1 (t:Int) (h1: -9000000000000000000≤t) (h2:t≤9000000000000000000):nI.f t=some (t/86400,t%86400,())∧vK.f t=some (t/86400,t%86400,()):=by
 obtain⟨e1,e2⟩:=tdm t 86400 (by omega);rw[nI.f_eq,vK.f_eq,vF.f_eq,e1,e2];by_cases c:t%86400≠0∧t<0
 ·rw[if_pos c,if_pos c];have q1:t/86400+1-1=t/86400:=by omega
  have q2:t%86400-86400+86400=t%86400:=by omega
  simp(disch:=omega)only[ss,q1,q2];exact⟨trivial,trivial⟩
 ·rw[if_neg c,if_neg c];simp(disch:=omega)only[ss];exact⟨trivial,trivial⟩
theorem eF2 (t:Int):eM.f t=some (decide (-62135596800≤t∧t≤253402300799),())∧bH.f t=some (decide (-62135596800≤t∧t≤253402300799),()):=by
 rw[eM.f_eq,bH.f_eq];by_cases c: -62135596800≤t
 ·by_cases c2:t≤253402300799
  ·simp(disch:=omega)only[ss,ge_iff_le];exact⟨trivial,trivial⟩
  ·simp(disch:=omega)only[ss,ge_iff_le];exact⟨trivial,trivial⟩
 ·simp(disch:=omega)only[ss,ge_iff_le];exact⟨trivial,trivial⟩
def dgs :Nat→Nat→List UInt8
 | 0,_=>[]
 | w+1,n=>dgs w (n/10)++[UInt8.ofNat (48+n%10)]
theorem uL :∀(w n:Nat),(dgs w n).length=w
 | 0,_=>rfl
 | w+1,n=>by rw[dgs,pJ2,uL w];rfl
theorem bJ :∀(w n:Nat),digs (dgs w n)
 | 0,_=>fun c h=>by cases h
 | w+1,n=>by rw[dgs,qM];refine⟨bJ w _,fun c h=>?_⟩;rw[vK2]at h;subst h;unfold dig;rw[of48 (by omega)];omega
theorem cQ :∀(w n:Nat),n<10 ^ w→dval 0 (dgs w n)=n
 | 0,n,h=>by
  have:n=0:=by simpa using h
  subst this;rfl
 | w+1,n,h=>by rw[Nat.pow_succ]at h;rw[dgs,yH,cQ w (n/10) (by omega)];have h8:=of48 (show n%10<10 by omega);generalize UInt8.ofNat (48+n%10)=c at h8;show 10*(n/10)+(c.toNat-48)=n;omega
theorem rL1 :∀w:Nat,dgs w 0=List.replicate w 48
 | 0=>rfl
 | w+1=>by rw[dgs,Nat.zero_div,rL1 w,List.replicate_succ'];rfl
theorem pG2 :∀(w n:Nat),n<10 ^ (w+1) → ∃z,z+(Lib.decDigits n).length=w+1∧List.replicate z 48++Lib.decDigits n=dgs (w+1) n:=by
 intro w
 induction w with
 | zero=>
  intro n h;have h:n<10:=by simpa using h
  have e:Lib.decDigits n=[UInt8.ofNat (48+n)]:=by rw[Lib.decDigits,dif_pos h]
  refine⟨0,by rw[e];rfl,?_⟩;rw[e,dgs,dgs,dN2 h];rfl
 | succ w ih=>
  intro n h;by_cases hn:n<10
  ·have e:Lib.decDigits n=[UInt8.ofNat (48+n)]:=by rw[Lib.decDigits,dif_pos hn]
   refine⟨w+1,by rw[e];rfl,?_⟩;rw[e,dgs,dN2 hn,Nat.div_eq_of_lt hn,rL1]
  ·have e:Lib.decDigits n=Lib.decDigits (n/10)++[UInt8.ofNat (48+n%10)]:=by rw[Lib.decDigits,dif_neg hn]
   obtain⟨z,h1,h2⟩:=ih (n/10) (by rw[Nat.pow_succ]at h;omega);refine⟨z,by rw[e,pJ2,sJ2];omega,?_⟩;rw[e,dgs,←h2,eK2]
theorem tL1 :∀n:Nat,Lib.repeatL [48] n=List.replicate n 48
 | 0=>rfl
 | n+1=>by rw[Lib.repeatL,tL1 n,List.replicate_succ];rfl
theorem sdig (w n:Nat) (h0:0<w) (hw:w≤4) (h:n<10 ^ w):wD.f (n:Int) (w:Int)=some (mkS (dgs w n),()):=by
 have hp:10 ^ w≤10 ^ 4:=Nat.pow_le_pow_right (by decide) hw;have hp:10 ^ w≤10000:=hp;have hI:mD.f (n:Int)=some (mkS (Lib.decDigits n),()):=by rw[bK n (by omega) (by omega),iF (by omega),pL2]
 obtain⟨w,rfl⟩:∃v,w=v+1:=⟨w-1,by omega⟩
 obtain⟨z,h1,h2⟩:=pG2 w n h;rw[wD.f_eq,hI];have hw':w6 (((w+1:Nat):Int)-((Lib.decDigits n).length:Int))=(z:Int):=by rw[wr (by omega) (by omega)];omega
 have hm:mm true (z:Int) 0=(z:Int):=by simp only[mm,cond_true];rw[if_neg (by omega)]
 have hR:wH.f (⟨#[48]⟩:ByteArray) (z:Int)=some (mkS (List.replicate z 48),()):=by rw[wH.f_sem];show(bif decide (0≤(z:Int))then(bif decide ((z:Int)≤1000000)then(bif decide (0<ByteArray.size ⟨#[48]⟩)then(bif decide (ByteArray.size ⟨#[48]⟩≤1000000)then some ((⟨(Lib.repeatL [48] (Int.toNat (z:Int))).toArray⟩:ByteArray),())else none)else none)else none)else none)=_;rw[pL2,tL1];have hs:ByteArray.size ⟨#[48]⟩=1:=rfl;simp(disch:=omega)only[ss,hs];rfl
 have hl:(List.replicate z (48:UInt8)).length=z:=List.length_replicate ..;simp(disch:=omega)only[ss,szS,hw',hm,hR,hl,aE,h2]
theorem tdig {n:Nat}:IntKind.u8.wrap (w6 (48+Int.tmod (n:Int) 10))=((UInt8.ofNat (48+n%10)).toNat:Int):=by rw[tmn (by omega),wr (by omega) (by omega),of48 (by omega),Go.IntWalk.u8_in _ ⟨by omega,by omega⟩];omega
theorem jD2 (w:Nat) (hw:w≤4):∀(k i n:Nat) (y:List UInt8),w-i=k→i≤w→n≤1000000→y.length=i→cC.l1 (n:Int) (w:Int) (i:Int) (I y)=some (mkS (dgs k n++y),()):=by
 have hlim:pC=17179869184:=rfl;intro k
 induction k with
 | zero=>
  intro i n y hk hi2 hn hy;rw[cC.l1_eq];simp(disch:=omega)only[ss,mD1];rfl
 | succ k ih=>
  intro i n y hk hi2 hn hy;have hIl:(I y).length=y.length:=by unfold I;rw[vJ2]
  have e10:Int.tdiv (n:Int) 10=((n/10:Nat):Int):=by rw[tdn (by omega)];omega
  rw[cC.l1_eq,tdig,e10];have hc:[((UInt8.ofNat (48+n%10)).toNat:Int)]++I y=I (UInt8.ofNat (48+n%10)::y):=rfl;have hcl:[((UInt8.ofNat (48+n%10)).toNat:Int)].length=1:=rfl;simp(disch:=omega)only[ss,hIl,hcl,hlim,hc];have:=ih (i+1) (n/10) (UInt8.ofNat (48+n%10)::y) (by omega) (by omega) (by omega) (by rw[yJ2,hy]);rw[hL2,gL2]at this;rw[this,dgs,eK2];rfl
theorem vdig (w n:Nat) (hw:w≤4) (hn:n≤1000000):cC.f (n:Int) (w:Int)=some (mkS (dgs w n),()):=by have:=jD2 w hw w 0 n [] (by omega) (by omega) hn rfl;rw[cK2,fK2]at this;rw[cC.f_eq];exact this
def mI1 (y m d h i s:Nat):List UInt8:=(dgs 4 y++(dgs 2 m++dgs 2 d))++84::(dgs 2 h++(dgs 2 i++dgs 2 s))
theorem rP1 (y m d h i s:Nat) (hy:y<10000) (hm:m<100) (hd:d<100) (hh:h<100) (hi2:i<100) (hs:s<100):gB.f (mkS (mI1 y m d h i s))=(dD.f (y:Int) (m:Int) (d:Int) (h:Int) (i:Int) (s:Int)).bind fun t3=>some (t3.1,t3.2.1,()):=by
 unfold mI1;obtain⟨a,ha⟩:∃a,a=dgs 4 y++(dgs 2 m++dgs 2 d):=⟨_,rfl⟩
 obtain⟨b,hb⟩:∃b,b=dgs 2 h++(dgs 2 i++dgs 2 s):=⟨_,rfl⟩
 have la:a.length=8:=by rw[ha];simp[uL]
 have lb:b.length=6:=by rw[hb];simp[uL]
 have da:digs a:=by rw[ha,qM,qM];exact⟨bJ _ _,bJ _ _,bJ _ _⟩
 have db:digs b:=by rw[hb,qM,qM];exact⟨bJ _ _,bJ _ _,bJ _ _⟩
 have va:dval 0 a=y*10000+m*100+d:=by rw[ha,yH,yH,fJ (dgs 2 d),fJ (dgs 2 m),uL,uL,cQ 4 y hy,cQ 2 m hm,cQ 2 d hd];omega
 have vb:dval 0 b=h*10000+i*100+s:=by rw[hb,yH,yH,fJ (dgs 2 s),fJ (dgs 2 i),uL,uL,cQ 2 h (by omega),cQ 2 i (by omega),cQ 2 s (by omega)];omega
 rw[←ha,←hb];have hl:(a++84::b).length=15:=by rw[pJ2,yJ2];omega
 have h8:bt (mkS (a++84::b)) 8=84:=by
  have:=cI (mkS (a++84::b)) 8;have e:(a++84::b).getD 8 0=84:=by rw[rJ2,mK2 (by omega),la];rfl
  have t:bt (mkS (a++84::b)) 8=(((a++84::b).getD 8 0).toNat:Int):=this;rw[e]at t;exact t
 have x1:(mkS (a++84::b)).extract 0 8=mkS a:=by rw[ex_S,oK2,←la];simp
 have x2:(mkS (a++84::b)).extract 9 15=mkS b:=by
  have:(a++84::b).drop 9=b:=by rw[show(9:Nat)=a.length+1 by omega,sM2];simp
  rw[ex_S,this];rw[aM2 (by omega)]
 have nA:=(snum a (by omega)).1 da;have nB:=(snum b (by omega)).1 db;rw[va]at nA;rw[vb]at nB;have t8:(8:Int).toNat=8:=rfl;have t9:(9:Int).toNat=9:=rfl;rw[gB.f_eq];simp(disch:=omega)only[ss,szS,hl,h8,gB.l1_eq,t8,t9,x1,x2,nA,nB,gB.l2_eq]
 rw[tdn (show(0:Int)≤((y*10000+m*100+d:Nat):Int) by omega),tdn (show(0:Int)≤((y*10000+m*100+d:Nat):Int) by omega),tmn (show(0:Int)≤((y*10000+m*100+d:Nat):Int) by omega),
  tdn (show(0:Int)≤((h*10000+i*100+s:Nat):Int) by omega),tdn (show(0:Int)≤((h*10000+i*100+s:Nat):Int) by omega),tmn (show(0:Int)≤((h*10000+i*100+s:Nat):Int) by omega)]
 have w1:w6 (((y*10000+m*100+d:Nat):Int)/10000)=(y:Int):=by rw[wr (by omega) (by omega)];omega
 have w2:w6 (((y*10000+m*100+d:Nat):Int)/100)=((y*100+m:Nat):Int):=by rw[wr (by omega) (by omega)];omega
 have w3:w6 (((h*10000+i*100+s:Nat):Int)/10000)=(h:Int):=by rw[wr (by omega) (by omega)];omega
 have w4:w6 (((h*10000+i*100+s:Nat):Int)/100)=((h*100+i:Nat):Int):=by rw[wr (by omega) (by omega)];omega
 rw[w1,w2,w3,w4,tmn (show(0:Int)≤((y*100+m:Nat):Int) by omega),tmn (show(0:Int)≤((h*100+i:Nat):Int) by omega)];rw[show((y*100+m:Nat):Int)%100=(m:Int) by omega,show((y*10000+m*100+d:Nat):Int)%100=(d:Int) by omega,show((h*100+i:Nat):Int)%100=(i:Int) by omega,show((h*10000+i*100+s:Nat):Int)%100=(s:Int) by omega]
theorem zH (y m d h i s n:Int) (hd:qM1 n y m d) (h1:0≤h∧h≤23) (h2:0≤i∧i≤59) (h3:0≤s∧s≤59):dD.f y m d h i s=some (n*86400+3600*h+60*i+s,0,()):=by have hb:=iU1 hd;rw[dD.f_eq,(wG1 y m d).1,if_pos hd.1,hd.2];simp(disch:=omega)only[ss,gt_iff_lt,dD.l1_eq]
theorem lG2 {y m d:Int} (h:kM y m d=true):d≤31:=by have:=gR.1 h;have:=iQ y m;omega
theorem oE1 (t:Int) (h1: -62135596800≤t) (h2:t≤253402300799):∃s:List UInt8,s.length=15∧(∀c∈s,c=84∨dig c)∧kH.f t=some (mkS s,0,())∧oG.f t=some (mkS s,0,())∧gB.f (mkS s)=some (t,0,()):=by
 obtain⟨y,m,d,hd,e1,e2⟩:=mS1 (t/86400) (by omega) (by omega);obtain⟨hb1,hb2,hb3,hb4,_,_⟩:=iU1 hd;obtain⟨v1,v2,v3,v4⟩:=gR.1 hd.1;have v5:=lG2 hd.1;obtain⟨yn,rfl⟩:=yK2 (show 0≤y by omega);obtain⟨mn,rfl⟩:=yK2 (show 0≤m by omega);obtain⟨dn',rfl⟩:=yK2 (show 0≤d by omega);obtain⟨sn,hsn⟩:=yK2 (show 0≤t%86400 by omega);have hsl:sn<86400:=by omega
 obtain⟨g1,g2⟩:=tQ1 t (by omega) (by omega);rw[hsn]at g1 g2;have w1:w6 (Int.tdiv (sn:Int) 3600)=((sn/3600:Nat):Int):=by rw[tdn (by omega),wr (by omega) (by omega)];omega
 have w2:Int.tmod (w6 (Int.tdiv (sn:Int) 60)) 60=((sn/60%60:Nat):Int):=by rw[tdn (by omega),wr (by omega) (by omega),tmn (by omega)];omega
 have w3:Int.tmod (sn:Int) 60=((sn%60:Nat):Int):=by rw[tmn (by omega)];omega
 have q4:(4:Int)=((4:Nat):Int):=rfl;have q2:(2:Int)=((2:Nat):Int):=rfl;have s1:wD.f (yn:Int) 4=some (mkS (dgs 4 yn),()):=sdig 4 yn (by omega) (by omega) (by omega);have s2:wD.f (mn:Int) 2=some (mkS (dgs 2 mn),()):=sdig 2 mn (by omega) (by omega) (by omega);have s3:wD.f (dn':Int) 2=some (mkS (dgs 2 dn'),()):=sdig 2 dn' (by omega) (by omega) (by omega);have s4:wD.f ((sn/3600:Nat):Int) 2=some (mkS (dgs 2 (sn/3600)),()):=sdig 2 _ (by omega) (by omega) (by omega);have s5:wD.f ((sn/60%60:Nat):Int) 2=some (mkS (dgs 2 (sn/60%60)),()):=sdig 2 _ (by omega) (by omega) (by omega);have s6:wD.f ((sn%60:Nat):Int) 2=some (mkS (dgs 2 (sn%60)),()):=sdig 2 _ (by omega) (by omega) (by omega);have u1:cC.f (yn:Int) 4=some (mkS (dgs 4 yn),()):=vdig 4 yn (by omega) (by omega);have u2:cC.f (mn:Int) 2=some (mkS (dgs 2 mn),()):=vdig 2 mn (by omega) (by omega);have u3:cC.f (dn':Int) 2=some (mkS (dgs 2 dn'),()):=vdig 2 dn' (by omega) (by omega);have u4:cC.f ((sn/3600:Nat):Int) 2=some (mkS (dgs 2 (sn/3600)),()):=vdig 2 _ (by omega) (by omega);have u5:cC.f ((sn/60%60:Nat):Int) 2=some (mkS (dgs 2 (sn/60%60)),()):=vdig 2 _ (by omega) (by omega);have u6:cC.f ((sn%60:Nat):Int) 2=some (mkS (dgs 2 (sn%60)),()):=vdig 2 _ (by omega) (by omega);have hT:(⟨#[84]⟩:ByteArray)=mkS [84]:=rfl;have ha:dgs 4 yn++dgs 2 mn++dgs 2 dn'++[84]++dgs 2 (sn/3600)++dgs 2 (sn/60%60)++dgs 2 (sn%60)=mI1 yn mn dn' (sn/3600) (sn/60%60) (sn%60):=by unfold mI1;simp
 refine⟨mI1 yn mn dn' (sn/3600) (sn/60%60) (sn%60),by unfold mI1;simp[uL],?_,?_,?_,?_⟩
 ·intro c hc;unfold mI1 at hc;simp only[gK2,uJ2]at hc;rcases hc with(hc | hc | hc) | hc | hc | hc | hc
  ·exact .inr (bJ _ _ c hc)
  ·exact .inr (bJ _ _ c hc)
  ·exact .inr (bJ _ _ c hc)
  ·exact .inl hc
  ·exact .inr (bJ _ _ c hc)
  ·exact .inr (bJ _ _ c hc)
  ·exact .inr (bJ _ _ c hc)
 ·rw[kH.f_eq,g1];simp(disch:=omega)only[ss,e1,s1,s2,s3,hT,w1,w2,w3,s4,s5,s6,szS,aE,pJ2,sJ2,uL,ha]
 ·have hM:bH.f t=some (true,()):=by rw[(eF2 t).2,dp ⟨h1,h2⟩]
  rw[oG.f_eq,hM];simp(disch:=omega)only[ss,g2,e2,u1,u2,u3,hT,w1,w2,w3,u4,u5,u6,szS,aE,pJ2,sJ2,uL,ha]
 ·rw[rP1 yn mn dn' _ _ _ (by omega) (by omega) (by omega) (by omega) (by omega) (by omega),zH _ _ _ _ _ _ (t/86400) hd (by omega) (by omega) (by omega)];simp only[qJ2]
  congr 2
  omega
end Go.GV.YtegmfagkklekaaaGreatDoor
