/-
Part of the words that the laws of this seat are proved with: no statement of its own, no conditions.
-/
import Derived.Test.YtidgapgbnlcjgaaGreatDoorY21
set_option linter.unusedVariables false
set_option linter.unusedSimpArgs false
namespace Go.GV.YtidgapgbnlcjgaaGreatDoor
open Go.Proofs
theorem vI2 (a b:List Int) (ha:a.length≤1000000):bD.f a b=some (decide (a=b),()):=by
 rw[bD.f_eq];by_cases hl:a.length=b.length
 ·have key:∀(k i:Nat),a.length-i=k→i≤a.length→bD.l1 a b i=some (decide (a.drop i=b.drop i),()):=by
   intro k
   induction k with
   | zero=>
    intro i hk hia;have e1:a.drop i=[]:=yO2 (by omega);have e2:b.drop i=[]:=yO2 (by omega);rw[bD.l1_eq,e1,e2];simp(disch:=omega)only[ss]
   | succ k ih=>
    intro i hk hia;have h1:i<a.length:=by omega
    have h2:i<b.length:=by omega
    have:=ih (i+1) (by omega) (by omega);rw[bD.l1_eq,nC 0 h1,nC 0 h2];by_cases c:a.getD i 0=b.getD i 0
    ·have e:decide (a.getD i 0::a.drop (i+1)=b.getD i 0::b.drop (i+1))=decide (a.drop (i+1)=b.drop (i+1)):=decide_eq_decide.2 ⟨fun h=>(uO2 h).2,fun h=>by rw[c,h]⟩;rw[e];simp(disch:=omega)only[ss];exact this
    ·have e:decide (a.getD i 0::a.drop (i+1)=b.getD i 0::b.drop (i+1))=false:=dn fun h=>c (uO2 h).1
     rw[e];simp(disch:=omega)only[ss]
  have:=key _ 0 rfl (iM2 _);rw[tM2,bN2,bN2]at this;simp(disch:=omega)only[ss,this]
 ·rw[dn (show ¬a=b from fun h=>hl (by rw[h]))];simp(disch:=omega)only[ss]
theorem vD2 (a b:List Dy) (ha:a.length≤1000000):jD.f a b=some (decide (a=b),()):=by
 rw[jD.f_eq];by_cases hl:a.length=b.length
 ·have key:∀(k i:Nat),a.length-i=k→i≤a.length→jD.l1 a b i=some (decide (a.drop i=b.drop i),()):=by
   intro k
   induction k with
   | zero=>
    intro i hk hia;have e1:a.drop i=[]:=yO2 (by omega);have e2:b.drop i=[]:=yO2 (by omega);rw[jD.l1_eq,e1,e2];simp(disch:=omega)only[ss]
   | succ k ih=>
    intro i hk hia;have h1:i<a.length:=by omega
    have h2:i<b.length:=by omega
    have:=ih (i+1) (by omega) (by omega);rw[jD.l1_eq,nC ((0,0,()):Dy) h1,nC ((0,0,()):Dy) h2];generalize hx:a.getD i ((0,0,()):Dy)=x;generalize hy:b.getD i ((0,0,()):Dy)=y;have hx':a.getD i ((0,0,()):Int×Int×Unit)=x:=hx;have hy':b.getD i ((0,0,()):Int×Int×Unit)=y:=hy;obtain⟨x1,x2,⟨⟩⟩:=x;obtain⟨y1,y2,⟨⟩⟩:=y;by_cases c:x1=y1∧x2=y2
    ·obtain⟨rfl,rfl⟩:=c;have e:decide ((x1,x2,())::a.drop (i+1)=(x1,x2,())::b.drop (i+1))=decide (a.drop (i+1)=b.drop (i+1)):=decide_eq_decide.2 ⟨fun h=>(uO2 h).2,fun h=>by rw[h]⟩;rw[e];simp(disch:=omega)only[ss,hx',hy',jD.l2_eq];exact this
    ·have e:decide ((x1,x2,())::a.drop (i+1)=(y1,y2,())::b.drop (i+1))=false:=dn fun h=>c (by have:=(uO2 h).1;cases this;exact⟨rfl,rfl⟩)
     rw[e];by_cases c1:x1=y1
     ·have c2:¬x2=y2:=fun h=>c ⟨c1,h⟩
      simp(disch:=omega)only[ss,hx',hy',jD.l2_eq]
     ·simp(disch:=omega)only[ss,hx',hy',jD.l2_eq]
  have:=key _ 0 rfl (iM2 _);rw[tM2,bN2,bN2]at this;simp(disch:=omega)only[ss,this]
 ·rw[dn (show ¬a=b from fun h=>hl (by rw[h]))];simp(disch:=omega)only[ss]
theorem cC1 (r q:Rl) (hr:cL r):xE (fI.f r q) (r=q):=by
 unfold cL kT at hr;obtain⟨f,iv,ct,un,wk,en,mo,we,yd,md,dy,ho,mi,se,po,⟨⟩⟩:=r;obtain⟨f',iv',ct',un',wk',en',mo',we',yd',md',dy',ho',mi',se',po',⟨⟩⟩:=q;dsimp only at hr;obtain⟨h1,h2,h3,h4,h5,h6,h7,h8,h9⟩:=hr;have no:∀{p:Prop},¬p→xE (some (false,())) p:=fun h=>⟨false,rfl,by simp[h]⟩
 rw[fI.f_eq,vI2 mo mo' (by omega),vI2 we we' (by omega),vI2 yd yd' (by omega),vI2 md md' (by omega),vD2 dy dy' (by omega),vI2 ho ho' (by omega),vI2 mi mi' (by omega),vI2 se se' (by omega),vI2 po po' (by omega)];simp only[eM2];by_cases c0:f=f'
 rotate_left
 ·simp only[dn c0,cond_true,cond_false];exact no fun h=>c0 (by cases h;rfl)
 by_cases c1:iv=iv'
 rotate_left
 ·simp only[dp c0,dn c1,cond_true,cond_false];exact no fun h=>c1 (by cases h;rfl)
 by_cases c2:ct=ct'
 rotate_left
 ·simp only[dp c0,dp c1,dn c2,cond_true,cond_false];exact no fun h=>c2 (by cases h;rfl)
 by_cases c3:un=un'
 rotate_left
 ·simp only[dp c0,dp c1,dp c2,dn c3,cond_true,cond_false];exact no fun h=>c3 (by cases h;rfl)
 by_cases c4:wk=wk'
 rotate_left
 ·simp only[dp c0,dp c1,dp c2,dp c3,dn c4,cond_true,cond_false];exact no fun h=>c4 (by cases h;rfl)
 by_cases c5:en=en'
 rotate_left
 ·have e:(en==en')=false:=by cases en <;> cases en' <;> first | rfl | exact absurd rfl c5
  simp only[dp c0,dp c1,dp c2,dp c3,dp c4,e,cond_true,cond_false];exact no fun h=>c5 (by cases h;rfl)
 have e5:(en==en')=true:=by rw[c5,beq_self_eq_true]
 by_cases c6:mo=mo'
 rotate_left
 ·simp only[dp c0,dp c1,dp c2,dp c3,dp c4,e5,dn c6,cond_true,cond_false];exact no fun h=>c6 (by cases h;rfl)
 by_cases c7:we=we'
 rotate_left
 ·simp only[dp c0,dp c1,dp c2,dp c3,dp c4,dp c6,e5,dn c7,cond_true,cond_false];exact no fun h=>c7 (by cases h;rfl)
 by_cases c8:yd=yd'
 rotate_left
 ·simp only[dp c0,dp c1,dp c2,dp c3,dp c4,dp c6,dp c7,e5,dn c8,cond_true,cond_false];exact no fun h=>c8 (by cases h;rfl)
 by_cases c9:md=md'
 rotate_left
 ·simp only[dp c0,dp c1,dp c2,dp c3,dp c4,dp c6,dp c7,dp c8,e5,dn c9,cond_true,cond_false];exact no fun h=>c9 (by cases h;rfl)
 by_cases c10:dy=dy'
 rotate_left
 ·simp only[dp c0,dp c1,dp c2,dp c3,dp c4,dp c6,dp c7,dp c8,dp c9,e5,dn c10,cond_true,cond_false];exact no fun h=>c10 (by cases h;rfl)
 by_cases c11:ho=ho'
 rotate_left
 ·simp only[dp c0,dp c1,dp c2,dp c3,dp c4,dp c6,dp c7,dp c8,dp c9,dp c10,e5,dn c11,cond_true,cond_false];exact no fun h=>c11 (by cases h;rfl)
 by_cases c12:mi=mi'
 rotate_left
 ·simp only[dp c0,dp c1,dp c2,dp c3,dp c4,dp c6,dp c7,dp c8,dp c9,dp c10,dp c11,e5,dn c12,cond_true,cond_false];exact no fun h=>c12 (by cases h;rfl)
 by_cases c13:se=se'
 rotate_left
 ·simp only[dp c0,dp c1,dp c2,dp c3,dp c4,dp c6,dp c7,dp c8,dp c9,dp c10,dp c11,dp c12,e5,dn c13,cond_true,cond_false];exact no fun h=>c13 (by cases h;rfl)
 by_cases c14:po=po'
 rotate_left
 ·simp only[dp c0,dp c1,dp c2,dp c3,dp c4,dp c6,dp c7,dp c8,dp c9,dp c10,dp c11,dp c12,dp c13,e5,dn c14,cond_true,cond_false];exact no fun h=>c14 (by cases h;rfl)
 simp only[dp c0,dp c1,dp c2,dp c3,dp c4,dp c6,dp c7,dp c8,dp c9,dp c10,dp c11,dp c12,dp c13,dp c14,e5,cond_true];exact⟨true,rfl,by simp[c0,c1,c2,c3,c4,c5,c6,c7,c8,c9,c10,c11,c12,c13,c14]⟩
theorem yW1 (n:Int):Lib.itoa n≠[]:=by
 by_cases hn:n<0
 ·rw[lG hn];simp
 ·rw[mF hn];exact D_ne _
theorem bK2 (c:UInt8):∀(l:List (List UInt8)),l≠[]→(∀s∈l,s≠[])→jn c l≠[]
 | [],h,_=>absurd rfl h
 | [a],_,h=>h a (by simp)
 | a::b::l,_,_=>by show a++c::jn c (b::l)≠[];simp
theorem hR1 {l:List Int} (h:small l) (i:Nat):small (l.take i):=fun n hn=>h n (vO2 hn)
theorem gI (name:List UInt8) (l:List Int) (hn:name.length≤20) (h:l.length≤60) (hb:small l):gC.f (mkS name) l=some (mkS (tl (opt (decide ((l.length:Int)>0)) name (jn 44 (l.map Lib.itoa)))),()):=by
 have h44:(⟨#[44]⟩:ByteArray)=mkS [44]:=rfl;have h59:(⟨#[59]⟩:ByteArray)=mkS [59]:=rfl;have h61:(⟨#[61]⟩:ByteArray)=mkS [61]:=rfl;have hnil:(⟨#[]⟩:ByteArray)=mkS []:=rfl;have hlen:=qI l h hb;have key:∀(k i:Nat),l.length-i=k→i≤l.length→gC.l1 (mkS name) l (mkS (jn 44 ((l.take i).map Lib.itoa))) i=some (mkS (tl (opt (decide ((l.length:Int)>0)) name (jn 44 (l.map Lib.itoa)))),()):=by
  intro k
  induction k with
  | zero=>
   intro i hk hil;have e:i=l.length:=by omega
   subst e;rw[fO2,gC.l1_eq,mE,hnil,dm];by_cases c:l=[]
   ·subst c;simp(disch:=omega)only[ss,xM2];rfl
   ·have hp:(l.length:Int)>0:=by have:=hO2.2 c;omega
    have hj:¬jn 44 (l.map Lib.itoa)=[]:=bK2 44 _ (by simpa using c) fun s hs=>by obtain⟨n,_,e⟩:=yM2.1 hs;rw[←e];exact yW1 n
    rw[dp hp,dn hj];simp(disch:=omega)only[ss,h59,h61,szS,cE,cM2,gM2];have:[59]++name++[61]++jn 44 (l.map Lib.itoa)=tl (opt true name (jn 44 (l.map Lib.itoa))):=by simp[opt,tl]
    rw[this]
  | succ k ih=>
   intro i hk hil;have hlt:i<l.length:=by omega
   have hn':=hb _ (sC 0 hlt);have hD:=dR (l.getD i 0) (by omega) (by omega);have hl4:=iN (l.getD i 0) (by omega) (by omega);have hpl:=qI (l.take i) (by rw[sM2];omega) (hR1 hb i);have:=ih (i+1) (by omega) (by omega);rw[kE 0 hlt,uM2,List.map_singleton,vC1,dp (show(l.length:Int)>0 by omega)]at this;rw[gC.l1_eq];by_cases c:i=0
   ·subst c;have e0:(l.take 0).map Lib.itoa=[]:=by simp
    rw[e0]at this ⊢;rw[if_pos rfl]at this;have hj0:jn 44 ([]:List (List UInt8))=[]:=rfl;rw[hj0];simp(disch:=omega)only[ss,gC.l2_eq,hD,szS,cE,xM2,lN2];exact this
   ·have hne:(l.take i).map Lib.itoa≠[]:=by intro q;have:=congrArg List.length q;rw[hM2,sM2,xM2]at this;omega
    rw[if_neg hne]at this;simp(disch:=omega)only[ss,h44,gC.l2_eq,hD,szS,cE,cM2,gM2];rw[show jn 44 ((l.take i).map Lib.itoa)++[44]++Lib.itoa (l.getD i 0)=jn 44 ((l.take i).map Lib.itoa)++44::Lib.itoa (l.getD i 0) by simp];exact this
 have:=key _ 0 rfl (iM2 _);rw[tM2]at this;rw[gC.f_eq];exact this
theorem eK1 {l:List Dy} (h:rP l) (i:Nat):rP (l.take i):=fun n hn=>h n (vO2 hn)
section
variable (f iv ct un wk : Int) (en : Bool) (mo we yd md : List Int) (dy : List Dy) (ho mi se po : List Int)
def preD (dy:List Dy) (i:Nat):List UInt8:=if i=0 then []else [59,66,89,68,65,89,61]++jn 44 ((dy.take i).map dt)
theorem lS1 (h:dy.length≤60) (hb:rP dy) (s:List UInt8) (hs:s.length≤100000):∀(k i:Nat),dy.length-i=k→i≤dy.length →
  qA.l4 (mkS (s++preD dy i)) i f iv ct un wk en mo we yd md dy ho mi se po=qA.l4 (mkS (s++tl (opt (decide ((dy.length:Int)>0)) [66,89,68,65,89] (jn 44 (dy.map dt))))) dy.length f iv ct un wk en mo we yd md dy ho mi se po:=by
 have h44:(⟨#[44]⟩:ByteArray)=mkS [44]:=rfl;have hB:(⟨#[59,66,89,68,65,89,61]⟩:ByteArray)=mkS [59,66,89,68,65,89,61]:=rfl;have hBl:([59,66,89,68,65,89,61]:List UInt8).length=7:=rfl;intro k
 induction k with
 | zero=>
  intro i hk hil;have e:i=dy.length:=by omega
  subst e
  congr 2
  unfold preD;rw[fO2];by_cases c:dy.length=0
  ·rw[if_pos c,dn (by omega)];rfl
  ·rw[if_neg c,dp (by omega)];simp[opt,tl]
 | succ k ih=>
  intro i hk hil;have hlt:i<dy.length:=by omega
  have hn:=hb _ (sC ((0,0,()):Dy) hlt);have:=ih (i+1) (by omega) (by omega);rw[←this];have hpl:=gZ (dy.take i) (by rw[sM2];omega) (eK1 hb i)
  have hpre:preD dy (i+1)=(if i=0 then [59,66,89,68,65,89,61]else preD dy i++[44])++dt (dy.getD i ((0,0,()):Dy)):=by
   unfold preD;rw[if_neg (by omega),kE ((0,0,()):Dy) hlt,uM2,List.map_singleton,vC1];by_cases c:i=0
   ·subst c;rw[if_pos (by simp),if_pos rfl]
   ·have hne:(dy.take i).map dt≠[]:=by intro q;have:=congrArg List.length q;rw[hM2,sM2,xM2]at this;omega
    rw[if_neg hne,if_neg c,if_neg c];simp
  have hprel:(preD dy i).length≤430:=by
   unfold preD;split
   ·exact iM2 _
   ·rw[cM2];omega
  rw[hpre];have hdl:=tT1 (dy.getD i ((0,0,()):Dy)) ⟨hn.1,hn.2.1⟩;generalize hd:dy.getD i ((0,0,()):Dy)=d at hn hdl;have hd':dy.getD i ((0,0,()):Int×Int×Unit)=d:=hd;have hD:=dR d.1 (by omega) (by omega);have hgw:=gm wd d.2.1.toNat (by rw[wd7];omega);have hwl:((wd.map mkS).length:Int)=7:=rfl;have hl4:=iN d.1 (by omega) (by omega);have hl2:=bH1 d.2.1.toNat
  have step:∀t:List UInt8,t.length≤101000→qA.l5 (mkS t) (i:Int) f iv ct un wk en mo we yd md dy ho mi se po=qA.l4 (mkS (t++dt d)) ((i+1:Nat):Int) f iv ct un wk en mo we yd md dy ho mi se po:=fun t ht=>by
   rw[qA.l5_eq];by_cases c:d.1=0
   ·have e:dt d=wd.getD d.2.1.toNat []:=by unfold dt;rw[if_pos c];rfl
    rw[e];simp(disch:=omega)only[ss,hd',qA.l6_eq,iS,hwl,hgw,szS,cE,yN2,xN2]
   ·have e:dt d=Lib.itoa d.1++wd.getD d.2.1.toNat []:=by unfold dt;rw[if_neg c]
    rw[e,←rM2];simp(disch:=omega)only[ss,hd',hD,qA.l6_eq,iS,hwl,hgw,szS,cE,cM2,yN2,xN2]
  rw[qA.l4_eq];by_cases c:i=0
  ·subst c;rw[if_pos rfl];have e0:preD dy 0=[]:=rfl;rw[e0,qM2];have hst:=step (s++[59,66,89,68,65,89,61]) (by rw[cM2];omega);rw[rM2,tM2]at hst;simp(disch:=omega)only[ss,hB,szS,hBl,cE];exact hst
  ·rw[if_neg c];have hst:=step (s++preD dy i++[44]) (by rw[cM2,cM2,gM2];omega);simp(disch:=omega)only[ss,h44,szS,cM2,gM2,cE];rw[hst];simp only[rM2]
theorem cL1 (hM:bA.f (f,iv,ct,un,wk,en,mo,we,yd,md,dy,ho,mi,se,po,())=some (true,())) (hp:mayP f iv ct un wk en mo we yd md dy ho mi se po):qA.f (f,iv,ct,un,wk,en,mo,we,yd,md,dy,ho,mi,se,po,())=some (mkS (jn 59 (qQ f iv ct un wk en mo we yd md dy ho mi se po)),0,()):=by
 obtain⟨b1,b2,b3,bmo,bwe,byd,bmd,bdy,bho,bmi,bse,bpo⟩:=nC1 f iv ct un wk en mo we yd md dy ho mi se po hp;obtain⟨u1,_,_,u2,_⟩:=pO un b3;have hwf:(fw.getD (f-1).toNat []).length≤8:=dC2 _;have hwk:(wd.getD wk.toNat []).length≤2:=bH1 _;have li:=iN iv (by omega) (by omega);have lc:=iN ct (by omega) (by omega);have hIi:=dR iv (by omega) (by omega);have hIc:=dR ct (by omega) (by omega);have hfr:(([]:List UInt8)::fw).getD f.toNat []=fw.getD (f-1).toNat []:=by
  have:f=1∨f=2∨f=3∨f=4∨f=5∨f=6∨f=7:=by omega
  rcases this with rfl | rfl | rfl | rfl | rfl | rfl | rfl <;> rfl
 have hgf:=gm (([]:List UInt8)::fw) f.toNat (by rw[kM2,fw7];omega);rw[hfr]at hgf;have hgw:=gm wd wk.toNat (by rw[wd7];omega);have hfl:(((([]:List UInt8)::fw).map mkS).length:Int)=8:=rfl;have hwl:((wd.map mkS).length:Int)=7:=rfl;have hF:(⟨#[70,82,69,81,61]⟩:ByteArray)=mkS [70,82,69,81,61]:=rfl;obtain⟨s0,e0⟩:∃s,s=[70,82,69,81]++61::fw.getD (f-1).toNat []:=⟨_,rfl⟩
 have hs0:[70,82,69,81,61]++fw.getD (f-1).toNat []=s0:=by rw[e0];rfl
 have l0:s0.length≤13:=by rw[e0];simp only[cM2,kM2,xM2];omega
 have n1:(⟨#[59,73,78,84,69,82,86,65,76,61]⟩:ByteArray)=mkS [59,73,78,84,69,82,86,65,76,61]:=rfl;have n2:(⟨#[59,67,79,85,78,84,61]⟩:ByteArray)=mkS [59,67,79,85,78,84,61]:=rfl;have n3:(⟨#[59,85,78,84,73,76,61]⟩:ByteArray)=mkS [59,85,78,84,73,76,61]:=rfl;have n4:(⟨#[59,87,75,83,84,61]⟩:ByteArray)=mkS [59,87,75,83,84,61]:=rfl;have z1:([59,73,78,84,69,82,86,65,76,61]:List UInt8).length=10:=rfl;have z2:([59,67,79,85,78,84,61]:List UInt8).length=7:=rfl;have z3:([59,85,78,84,73,76,61]:List UInt8).length=7:=rfl;have z4:([59,87,75,83,84,61]:List UInt8).length=6:=rfl;have z0:([70,82,69,81,61]:List UInt8).length=5:=rfl;obtain⟨o1,q1⟩:∃o,o=tl (opt (!decide (iv=1)) [73,78,84,69,82,86,65,76] (Lib.itoa iv)):=⟨_,rfl⟩
 obtain⟨o2,q2⟩:∃o,o=tl (opt (!decide (ct=0)) [67,79,85,78,84] (Lib.itoa ct)):=⟨_,rfl⟩
 obtain⟨o3,q3⟩:∃o,o=tl (opt en [85,78,84,73,76] (utx un)):=⟨_,rfl⟩
 obtain⟨m1,r1⟩:∃o,o=tl (opt (decide ((mo.length:Int)>0)) [66,89,77,79,78,84,72] (jn 44 (mo.map Lib.itoa))):=⟨_,rfl⟩
 obtain⟨m2,r2⟩:∃o,o=tl (opt (decide ((we.length:Int)>0)) [66,89,87,69,69,75,78,79] (jn 44 (we.map Lib.itoa))):=⟨_,rfl⟩
 obtain⟨m3,r3⟩:∃o,o=tl (opt (decide ((yd.length:Int)>0)) [66,89,89,69,65,82,68,65,89] (jn 44 (yd.map Lib.itoa))):=⟨_,rfl⟩
 obtain⟨m4,r4⟩:∃o,o=tl (opt (decide ((md.length:Int)>0)) [66,89,77,79,78,84,72,68,65,89] (jn 44 (md.map Lib.itoa))):=⟨_,rfl⟩
 obtain⟨o5,q5⟩:∃o,o=tl (opt (decide ((dy.length:Int)>0)) [66,89,68,65,89] (jn 44 (dy.map dt))):=⟨_,rfl⟩
 obtain⟨m5,r5⟩:∃o,o=tl (opt (decide ((ho.length:Int)>0)) [66,89,72,79,85,82] (jn 44 (ho.map Lib.itoa))):=⟨_,rfl⟩
 obtain⟨m6,r6⟩:∃o,o=tl (opt (decide ((mi.length:Int)>0)) [66,89,77,73,78,85,84,69] (jn 44 (mi.map Lib.itoa))):=⟨_,rfl⟩
 obtain⟨m7,r7⟩:∃o,o=tl (opt (decide ((se.length:Int)>0)) [66,89,83,69,67,79,78,68] (jn 44 (se.map Lib.itoa))):=⟨_,rfl⟩
 obtain⟨m8,r8⟩:∃o,o=tl (opt (decide ((po.length:Int)>0)) [66,89,83,69,84,80,79,83] (jn 44 (po.map Lib.itoa))):=⟨_,rfl⟩
 obtain⟨o9,q9⟩:∃o,o=tl (opt (!decide (wk=0)) [87,75,83,84] (wd.getD wk.toNat [])):=⟨_,rfl⟩
 have L:∀(b:Bool) (name v o:List UInt8),o=tl (opt b name v)→o.length≤name.length+v.length+2:=fun b name v o e=>by rw[e];exact tL b name v
 have ll:∀(x:List Int) (name o:List UInt8),x.length≤60→small x→name.length≤20→o=tl (opt (decide ((x.length:Int)>0)) name (jn 44 (x.map Lib.itoa)))→o.length≤400:=fun x name o h1 h2 h3 e=>by have:=L _ _ _ _ e;have:=qI x h1 h2;omega
 have y1:o1.length≤100:=by have:=L _ _ _ _ q1;rw[show([73,78,84,69,82,86,65,76]:List UInt8).length=8 from rfl]at this;omega
 have y2:o2.length≤100:=by have:=L _ _ _ _ q2;rw[show([67,79,85,78,84]:List UInt8).length=5 from rfl]at this;omega
 have y3:o3.length≤100:=by have:=L _ _ _ _ q3;rw[show([85,78,84,73,76]:List UInt8).length=5 from rfl]at this;omega
 have y5:o5.length≤500:=by have:=L _ _ _ _ q5;have:=gZ dy bdy.1 bdy.2;rw[show([66,89,68,65,89]:List UInt8).length=5 from rfl]at *;omega
 have k1:=ll mo _ m1 bmo.1 bmo.2 (by decide) r1;have k2:=ll we _ m2 bwe.1 bwe.2 (by decide) r2;have k3:=ll yd _ m3 byd.1 byd.2 (by decide) r3;have k4:=ll md _ m4 bmd.1 bmd.2 (by decide) r4;have k5:=ll ho _ m5 bho.1 bho.2 (by decide) r5;have k6:=ll mi _ m6 bmi.1 bmi.2 (by decide) r6;have k7:=ll se _ m7 bse.1 bse.2 (by decide) r7;have k8:=ll po _ m8 bpo.1 bpo.2 (by decide) r8;have v1:=gI [66,89,77,79,78,84,72] mo (by decide) bmo.1 bmo.2;have v2:=gI [66,89,87,69,69,75,78,79] we (by decide) bwe.1 bwe.2;have v3:=gI [66,89,89,69,65,82,68,65,89] yd (by decide) byd.1 byd.2;have v4:=gI [66,89,77,79,78,84,72,68,65,89] md (by decide) bmd.1 bmd.2;have v5:=gI [66,89,72,79,85,82] ho (by decide) bho.1 bho.2;have v6:=gI [66,89,77,73,78,85,84,69] mi (by decide) bmi.1 bmi.2;have v7:=gI [66,89,83,69,67,79,78,68] se (by decide) bse.1 bse.2;have v8:=gI [66,89,83,69,84,80,79,83] po (by decide) bpo.1 bpo.2;rw[←r1]at v1;rw[←r2]at v2;rw[←r3]at v3;rw[←r4]at v4;rw[←r5]at v5;rw[←r6]at v6;rw[←r7]at v7;rw[←r8]at v8;have hfin:s0++o1++o2++o3++(m1++m2++m3++m4)++o5++(m5++m6++m7++m8)++o9=jn 59 (qQ f iv ct un wk en mo we yd md dy ho mi se po):=by unfold qQ rest;rw[fE2,←e0];simp only[sV1];rw[q1,q2,q3,r1,r2,r3,r4,q5,r5,r6,r7,r8,q9];simp only[rM2]
 have p4:∀s:List UInt8,s.length≤10000→qA.l4 (mkS s) dy.length f iv ct un wk en mo we yd md dy ho mi se po=some (mkS (s++(m5++m6++m7++m8)++o9),0,()):=fun s hs=>by
  have hge:¬((dy.length:Int)<(dy.length:Int)):=Int.lt_irrefl _;rw[qA.l4_eq,dn hge,cond_false];simp only[nm10,nm11,nm12,nm13,v5,v6,v7,v8,eM2];by_cases c:wk=0
  ·have e9:o9=[]:=by rw[q9,dp c];rfl
   rw[e9];simp(disch:=omega)only[ss,szS,cE,cM2,qM2]
  ·have e9:o9=[59,87,75,83,84,61]++wd.getD wk.toNat []:=by rw[q9,dn c];simp[opt,tl]
   rw[e9];simp(disch:=omega)only[ss,szS,cE,cM2,iS,hwl,hgw,n4,z4]
 have p3:∀s:List UInt8,s.length≤5000→qA.l3 (mkS s) f iv ct un wk en mo we yd md dy ho mi se po=some (mkS (s++(m1++m2++m3++m4)++o5++(m5++m6++m7++m8)++o9),0,()):=fun s hs=>by have hd:=lS1 f iv ct un wk en mo we yd md dy ho mi se po bdy.1 bdy.2 (s++(m1++m2++m3++m4)) (by simp only[cM2];omega) _ 0 rfl (iM2 _);have e0:preD dy 0=[]:=rfl;rw[e0,qM2,←q5,tM2,p4 _ (by simp only[cM2];omega)]at hd;rw[qA.l3_eq];simp only[nm6,nm7,nm8,nm9,v1,v2,v3,v4,eM2];simp(disch:=omega)only[ss,szS,cE,cM2,hd]
 have p2:∀s:List UInt8,s.length≤4000→qA.l2 (mkS s) f iv ct un wk en mo we yd md dy ho mi se po=some (mkS (s++o3++(m1++m2++m3++m4)++o5++(m5++m6++m7++m8)++o9),0,()):=fun s hs=>by
  rw[qA.l2_eq]
  cases en with
  | false=>
   have e3:o3=[]:=by rw[q3];rfl
   rw[cond_false,p3 s (by omega),e3,qM2]
  | true=>
   have e3:o3=[59,85,78,84,73,76,61]++utx un:=by rw[q3];simp[opt,tl]
   have h3:=p3 (s++o3) (by simp only[cM2];omega);rw[e3]at h3 ⊢;simp(disch:=omega)only[ss,u2,n3,szS,z3,cE,cM2];exact h3
 have p1:∀s:List UInt8,s.length≤3000→qA.l1 (mkS s) f iv ct un wk en mo we yd md dy ho mi se po=some (mkS (s++o2++o3++(m1++m2++m3++m4)++o5++(m5++m6++m7++m8)++o9),0,()):=fun s hs=>by
  rw[qA.l1_eq];by_cases c:ct=0
  ·have e2:o2=[]:=by rw[q2,dp c];rfl
   rw[dp c,oN2,cond_false,p2 s (by omega),e2,qM2]
  ·have e2:o2=[59,67,79,85,78,84,61]++Lib.itoa ct:=by rw[q2,dn c];simp[opt,tl]
   have h3:=p2 (s++o2) (by simp only[cM2];omega);rw[e2]at h3 ⊢;simp(disch:=omega)only[ss,hIc,n2,szS,z2,cE,cM2];exact h3
 rw[qA.f_eq];simp only[hM,eM2,oN2,cond_false,rN1,hgf,hF,cE,hs0,szS,hfl,z0];by_cases c:iv=1
 ·have e1:o1=[]:=by rw[q1,dp c];rfl
  have h3:=p1 s0 (by omega);rw[←hfin,e1,qM2];simp(disch:=omega)only[ss];exact h3
 ·have e1:o1=[59,73,78,84,69,82,86,65,76,61]++Lib.itoa iv:=by rw[q1,dn c];simp[opt,tl]
  have h3:=p1 (s0++o1) (by simp only[cM2];omega);rw[←hfin];rw[e1]at h3 ⊢;simp(disch:=omega)only[ss,hIi,n1,szS,z1,cE,cM2];exact h3
end
def Odd (c:UInt8):Prop:=¬(33≤c.toNat∧c.toNat≤126)
def wide (l:List UInt8):Bool:=l.all fun x=>decide (33≤x.toNat)&&decide (x.toNat≤126)
theorem xL1 {l:List UInt8}:wide l=true↔allP l:=by unfold wide allP;simp only[dN2,fM2,decide_eq_true_eq]
theorem cJ {c:UInt8} {l:List UInt8} (h:wide l=true) (hc:Odd c):c∉l:=fun q=>hc (xL1.1 h c q)
theorem yR {c d:UInt8} (hc:Odd c) (h:wide [d]=true):c≠d:=fun e=>cJ h hc (kN2.2 e)
theorem iY {c:UInt8} (hc:Odd c):¬dig c:=fun q=>hc (by unfold dig at q;omega)
theorem tK1 (w:List (List UInt8)) (h:w.all wide=true):∀s∈w,wide s=true:=fun s hs=>dN2.1 h s hs
theorem iH2 {l:List UInt8} (h:∀c,Odd c→c∉l):allP l:=fun c hc=>Classical.byContradiction fun q=>h c q hc
theorem bH {a b:List UInt8} (ha:allP a) (hb:allP b):allP (a++b):=fun c hc=>(pM2.1 hc).elim (ha c) (hb c)
theorem iV1 {l:List UInt8} (h:digs l):allP l:=fun c hc=>by have:=h c hc;unfold dig at this;omega
theorem tU1 (n:Nat):allP (Lib.decDigits n):=iV1 (kV n)
theorem eR {l:List UInt8} (h:wide l=true):allP l:=xL1.1 h
theorem cK1 (d:UInt8) (hd:wide [d]=true):∀l:List (List UInt8),(∀s∈l,allP s)→allP (jn d l)
 | [],_=>fun c hc=>by cases hc
 | [a],h=>h a (by simp)
 | a::b::l,h=>by show allP (a++d::jn d (b::l));exact bH (h a (by simp)) (bH (eR hd) (cK1 d hd (b::l) fun s hs=>h s (lM2 _ hs)))
theorem eN1 (t:Int) (h: -62135596800≤t∧t≤253402300799):allP (utx t):=fun c hc=>by
 rcases(pO t h).2.1 c hc with rfl | e
 ·decide
 ·unfold dig at e;omega
theorem mJ2 {s:List UInt8} (h:allP s) (hne:s≠[]):mayB s=true:=by
 unfold mayB;rw[fM2,fM2];refine⟨dN2.2 fun c hc=>?_,?_,?_⟩
 ·have:=h c hc;unfold plB;rw[dp (by omega),dp (by omega)];rfl
 ·cases s with
  | nil=>exact absurd rfl hne
  | cons _ _=>rfl
 ·rw[dn (bS1 h)];rfl
theorem fJ {c:UInt8} (h61:c≠61) {b:Bool} {name v:List UInt8} (hn:c∉name) (hv:b=true→c∉v):∀s∈opt b name v,c∉s:=by
 cases b with
 | false=>intro s h;cases h
 | true=>
  intro s h;have h:s=name++61::v:=kN2.1 h;rw[h,pM2,jM2];rintro(q | q | q)
  ·exact hn q
  ·exact h61 q
  ·exact hv rfl q
theorem aO {c:UInt8} (hc:Odd c) (l:List Int):c∉jn 44 (l.map Lib.itoa):=nU1 (yR hc (by decide)) _ fun s h=>by obtain⟨n,_,e⟩:=yM2.1 h;rw[←e];exact dM (yR hc (by decide)) (iY hc)
theorem uE2 {c:UInt8} (hc:Odd c) (l:List Dy):c∉jn 44 (l.map dt):=nU1 (yR hc (by decide)) _ fun s h=>by obtain⟨n,_,e⟩:=yM2.1 h;rw[←e];exact wE2 c (yR hc (by decide)) (iY hc) (fun s hs=>cJ (tK1 wd (by decide) s hs) hc) n
section
variable (f iv ct un wk : Int) (en : Bool) (mo we yd md : List Int) (dy : List Dy) (ho mi se po : List Int)
theorem kX1 {c:UInt8} (hc:Odd c) (hp:mayP f iv ct un wk en mo we yd md dy ho mi se po):∀s∈qQ f iv ct un wk en mo we yd md dy ho mi se po,c∉s:=by
 obtain⟨b1,b2,b3,_⟩:=nC1 f iv ct un wk en mo we yd md dy ho mi se po hp
 have hu:c∉utx un:=fun q=>by
  rcases(pO un b3).2.1 _ q with e | e
  ·exact yR hc (by decide) e
  ·exact iY hc e
 have hi1:c∉Lib.itoa iv:=dM (yR hc (by decide)) (iY hc);have hi2:c∉Lib.itoa ct:=dM (yR hc (by decide)) (iY hc);have hw:=zG2 c (fun s hs=>cJ (tK1 wd (by decide) s hs) hc) wk.toNat;have hf:=kJ2 c (fun s hs=>cJ (tK1 fw (by decide) s hs) hc) (f-1).toNat;have h61:c≠61:=yR hc (by decide);intro s hs;unfold qQ rest at hs;rcases jM2.1 hs with e | hs
 ·rw[e];intro q;rcases pM2.1 q with q | q
  ·exact cJ (by decide) hc q
  rcases jM2.1 q with q | q
  ·exact yR hc (by decide) q
  ·exact hf q
 ·rcases pM2.1 hs with hs | hs
  ·exact fJ h61 (cJ (by decide) hc) (fun _=>hi1) s hs
  rcases pM2.1 hs with hs | hs
  ·exact fJ h61 (cJ (by decide) hc) (fun _=>hi2) s hs
  rcases pM2.1 hs with hs | hs
  ·exact fJ h61 (cJ (by decide) hc) (fun _=>hu) s hs
  rcases pM2.1 hs with hs | hs
  ·exact fJ h61 (cJ (by decide) hc) (fun _=>aO hc _) s hs
  rcases pM2.1 hs with hs | hs
  ·exact fJ h61 (cJ (by decide) hc) (fun _=>aO hc _) s hs
  rcases pM2.1 hs with hs | hs
  ·exact fJ h61 (cJ (by decide) hc) (fun _=>aO hc _) s hs
  rcases pM2.1 hs with hs | hs
  ·exact fJ h61 (cJ (by decide) hc) (fun _=>aO hc _) s hs
  rcases pM2.1 hs with hs | hs
  ·exact fJ h61 (cJ (by decide) hc) (fun _=>uE2 hc _) s hs
  rcases pM2.1 hs with hs | hs
  ·exact fJ h61 (cJ (by decide) hc) (fun _=>aO hc _) s hs
  rcases pM2.1 hs with hs | hs
  ·exact fJ h61 (cJ (by decide) hc) (fun _=>aO hc _) s hs
  rcases pM2.1 hs with hs | hs
  ·exact fJ h61 (cJ (by decide) hc) (fun _=>aO hc _) s hs
  rcases pM2.1 hs with hs | hs
  ·exact fJ h61 (cJ (by decide) hc) (fun _=>aO hc _) s hs
  ·exact fJ h61 (cJ (by decide) hc) (fun _=>hw) s hs
end
theorem tZ1 (r:Rl) (hs:cL r) (hM:xA.f r=some (true,())):allP (jn 59 (pts r)):=
 cK1 59 (by decide) _ fun s hs'=>iH2 fun c hc=>kX1 _ _ _ _ _ _ _ _ _ _ _ _ _ _ _ hc (mW hs hM) s hs'
def part (k:Nat) (u:UInt8):List UInt8:=if k=0 then []else Lib.decDigits k++[u]
def durT (n:Nat):List UInt8:=
 if n%604800=0 then [80]++Lib.decDigits (n/604800)++[87]
 else if n%86400=0 then [80]++part (n/86400) 68
 else [80]++part (n/86400) 68++([84]++part (n%86400/3600) 72++part (n%86400/60%60) 77++part (n%86400%60) 83)
theorem lF {k:Nat} (u:UInt8) (h:k≤999999999):(part k u).length≤10:=by
 have:=(jI k).2 h;unfold part;split
 ·simp
 ·rw[cM2,gM2];omega
theorem xM1 (k:Nat) (h:k≤999999999):nD.f (k:Int)=some (mkS (Lib.decDigits k),()):=by rw[lK k (by omega) (by omega),mF (by omega),cO2]
theorem kR (k:Nat) (u:UInt8) (h:k≤999999999):xD.f (k:Int) (mkS [u])=some (mkS (part k u),()):=by
 have hl:=(jI k).2 h;rw[xD.f_eq,xM1 k h];unfold part;by_cases c:k=0
 ·subst c;rfl
 ·rw[if_neg c];simp(disch:=omega)only[ss,szS,cE,gM2]
theorem rF1 (n:Nat) (h1:1≤n) (h2:n≤2147483648):qD.f (n:Int)=some (mkS (durT n),0,()):=by
 have e1:Int.tmod (n:Int) 604800=((n%604800:Nat):Int):=by rw[tmn (by omega)];omega
 have e2:w6 (Int.tdiv (n:Int) 604800)=((n/604800:Nat):Int):=by rw[tdn (by omega),wr (by omega) (by omega)];omega
 have e3:w6 (Int.tdiv (n:Int) 86400)=((n/86400:Nat):Int):=by rw[tdn (by omega),wr (by omega) (by omega)];omega
 have e4:Int.tmod (n:Int) 86400=((n%86400:Nat):Int):=by rw[tmn (by omega)];omega
 have e5:w6 (Int.tdiv ((n%86400:Nat):Int) 3600)=((n%86400/3600:Nat):Int):=by rw[tdn (by omega),wr (by omega) (by omega)];omega
 have e6:Int.tmod (w6 (Int.tdiv ((n%86400:Nat):Int) 60)) 60=((n%86400/60%60:Nat):Int):=by rw[tdn (by omega),wr (by omega) (by omega),tmn (by omega)];omega
 have e7:Int.tmod ((n%86400:Nat):Int) 60=((n%86400%60:Nat):Int):=by rw[tmn (by omega)];omega
 have l1:=lF 68 (show n/86400≤999999999 by omega);have l2:=lF 72 (show n%86400/3600≤999999999 by omega);have l3:=lF 77 (show n%86400/60%60≤999999999 by omega);have l4:=lF 83 (show n%86400%60≤999999999 by omega);have l5:=(jI (n/604800)).2 (by omega);have p1:xD.f ((n/86400:Nat):Int) ⟨#[68]⟩=some (mkS (part (n/86400) 68),()):=kR _ 68 (by omega);have p2:xD.f ((n%86400/3600:Nat):Int) ⟨#[72]⟩=some (mkS (part (n%86400/3600) 72),()):=kR _ 72 (by omega);have p3:xD.f ((n%86400/60%60:Nat):Int) ⟨#[77]⟩=some (mkS (part (n%86400/60%60) 77),()):=kR _ 77 (by omega);have p4:xD.f ((n%86400%60:Nat):Int) ⟨#[83]⟩=some (mkS (part (n%86400%60) 83),()):=kR _ 83 (by omega);have q80:(⟨#[80]⟩:ByteArray)=mkS [80]:=rfl;have q84:(⟨#[84]⟩:ByteArray)=mkS [84]:=rfl;have q87:(⟨#[87]⟩:ByteArray)=mkS [87]:=rfl;have hD:=xM1 (n/604800) (by omega);rw[qD.f_eq,dn (by omega),cond_false,dn (by omega),qD.l1_eq,cond_false,e1];unfold durT;by_cases c:n%604800=0
 ·rw[if_pos c,c];simp(disch:=omega)only[ss,e2,hD,q80,q87,szS,cE,cM2,gM2]
 ·rw[if_neg c];by_cases c2:n%86400=0
  ·rw[if_pos c2];simp(disch:=omega)only[ss,e3,e4,p1,q80,szS,cE,cM2,gM2]
  ·rw[if_neg c2];simp(disch:=omega)only[ss,e3,e4,e5,e6,e7,p1,p2,p3,p4,q80,q84,szS,cE,cM2,gM2]
theorem qB2 (s:List UInt8) (tot a:Int) (i:Nat) (hi:i<s.length) (hl:s.length≤100000) (hd:dig (s.getD i 0)):
  gA.l1 (mkS s) tot a (s.length:Int) (i:Int)=gA.l1 (mkS s) tot a (s.length:Int) ((i+1:Nat):Int):=by
 have hbt:bt (mkS s) (i:Int)=((s.getD i 0).toNat:Int):=kI (mkS s) i;unfold dig at hd
 conv=>lhs;rw[gA.l1_eq]
 simp(disch:=omega)only[ss,szS,hbt,gA.l2_eq];rfl
theorem aU1 (s:List UInt8) (tot a:Int) (i:Nat) (hi:i<s.length) (hl:s.length≤100000) (hd:s.getD i 0=80∨s.getD i 0=84):
  gA.l1 (mkS s) tot a (s.length:Int) (i:Int)=gA.l1 (mkS s) tot ((i+1:Nat):Int) (s.length:Int) ((i+1:Nat):Int):=by
 have hbt:bt (mkS s) (i:Int)=((s.getD i 0).toNat:Int):=kI (mkS s) i
 conv=>lhs;rw[gA.l1_eq]
 rcases hd with e | e
 ·rw[e]at hbt;have hbt:bt (mkS s) (i:Int)=80:=hbt;simp(disch:=omega)only[ss,szS,hbt,gA.l2_eq];rfl
 ·rw[e]at hbt;have hbt:bt (mkS s) (i:Int)=84:=hbt;simp(disch:=omega)only[ss,szS,hbt,gA.l2_eq];rfl
def vG1 (c:UInt8) (u:Nat):Prop:=c=87∧u=604800∨c=68∧u=86400∨c=72∧u=3600∨c=77∧u=60∨c=83∧u=1
theorem jG2 (s:List UInt8) (tot a i u:Nat) (hi:i<s.length) (hl:s.length≤100000) (hu:vG1 (s.getD i 0) u) (ha:a<i) (h10:i-a≤10) (hd:digs ((s.drop a).take (i-a))) (ht:tot≤2147483648) (hv:dval 0 ((s.drop a).take (i-a))*u≤2147483648):
  gA.l1 (mkS s) (tot:Int) (a:Int) (s.length:Int) (i:Int)=gA.l1 (mkS s) ((tot+dval 0 ((s.drop a).take (i-a))*u:Nat):Int) ((i+1:Nat):Int) (s.length:Int) ((i+1:Nat):Int):=by
 have hbt:bt (mkS s) (i:Int)=((s.getD i 0).toNat:Int):=kI (mkS s) i;have hx:(mkS s).extract a i=mkS ((s.drop a).take (i-a)):=ex_S s a i;have hn:=(snum ((s.drop a).take (i-a)) (by rw[sM2,aN2];omega)).1 hd;have hl3:∀unit:Nat,unit=u→gA.l3 (mkS s) (tot:Int) (a:Int) (i:Int) (unit:Int) (s.length:Int) (i:Int)=gA.l1 (mkS s) ((tot+dval 0 ((s.drop a).take (i-a))*u:Nat):Int) ((i+1:Nat):Int) (s.length:Int) ((i+1:Nat):Int):=by
  intro unit e;subst e;generalize dval 0 ((s.drop a).take (i-a))=v at hn hv;have w1:w6 ((v:Int)*(unit:Int))=((v*unit:Nat):Int):=by rw[←Int.natCast_mul,wr (by omega) (by omega)]
  rw[gA.l3_eq];simp(disch:=omega)only[ss,szS,hx,hn,gA.l4_eq,w1];rfl
 conv=>lhs;rw[gA.l1_eq]
 rcases hu with⟨e,f⟩ | ⟨e,f⟩ | ⟨e,f⟩ | ⟨e,f⟩ | ⟨e,f⟩ <;> rw[e]at hbt
 ·have hbt:bt (mkS s) (i:Int)=87:=hbt;simp(disch:=omega)only[ss,szS,hbt];exact hl3 604800 f.symm
 ·have hbt:bt (mkS s) (i:Int)=68:=hbt;simp(disch:=omega)only[ss,szS,hbt];exact hl3 86400 f.symm
 ·have hbt:bt (mkS s) (i:Int)=72:=hbt;simp(disch:=omega)only[ss,szS,hbt];exact hl3 3600 f.symm
 ·have hbt:bt (mkS s) (i:Int)=77:=hbt;simp(disch:=omega)only[ss,szS,hbt];exact hl3 60 f.symm
 ·have hbt:bt (mkS s) (i:Int)=83:=hbt;simp(disch:=omega)only[ss,szS,hbt];exact hl3 1 f.symm
theorem xN1 (pre d post:List UInt8) (c:UInt8) (tot u:Nat) (hl:(pre++(d++c::post)).length≤100000) (hd:digs d) (h1:1≤d.length) (h10:d.length≤10) (hu:vG1 c u) (ht:tot≤2147483648) (hv:dval 0 d*u≤2147483648):
  gA.l1 (mkS (pre++(d++c::post))) (tot:Int) (pre.length:Int) ((pre++(d++c::post)).length:Int) (pre.length:Int) =
   gA.l1 (mkS (pre++(d++c::post))) ((tot+dval 0 d*u:Nat):Int) ((pre.length+d.length+1:Nat):Int) ((pre++(d++c::post)).length:Int) ((pre.length+d.length+1:Nat):Int):=by
 obtain⟨s,hs⟩:∃s,s=pre++(d++c::post):=⟨_,rfl⟩
 have hsl:s.length=pre.length+(d.length+(post.length+1)):=by rw[hs];simp
 have hx:(s.drop pre.length).take (pre.length+d.length-pre.length)=d:=by rw[hs,vN2,zP2,lO2]
 have hc:s.getD (pre.length+d.length) 0=c:=by rw[hs,←rM2,dM2,←cM2,cN2 (oM2 _),Nat.sub_self];rfl
 rw[←hs]at hl ⊢;have hstep:∀j,pre.length≤j→j<pre.length+d.length→gA.l1 (mkS s) (tot:Int) (pre.length:Int) (s.length:Int) (j:Int)=gA.l1 (mkS s) (tot:Int) (pre.length:Int) (s.length:Int) ((j+1:Nat):Int):=by
  intro j h1 h2;refine qB2 s _ _ j (by omega) hl ?_;have:s.getD j 0=d.getD (j-pre.length) 0:=by rw[hs,dM2,cN2 h1,jN2 (by omega),←dM2]
  rw[this];exact hd _ (sC 0 (by omega))
 have hloop:=eH (fun j:Nat=>gA.l1 (mkS s) (tot:Int) (pre.length:Int) (s.length:Int) (j:Int)) (i:=pre.length) (k:=pre.length+d.length) (by omega) hstep;have hu2:=jG2 s tot pre.length (pre.length+d.length) u (by omega) hl (by rw[hc];exact hu) (by omega) (by omega) (by rw[hx];exact hd) ht (by rw[hx];exact hv);rw[hx]at hu2;exact hloop.trans hu2
theorem vY (pre post:List UInt8) (k:Nat) (c:UInt8) (tot u:Nat) (hl:(pre++(part k c++post)).length≤100000) (hk:k≤999999999) (hu:vG1 c u) (ht:tot≤2147483648) (hv:k*u≤2147483648):
  gA.l1 (mkS (pre++(part k c++post))) (tot:Int) (pre.length:Int) ((pre++(part k c++post)).length:Int) (pre.length:Int) =
   gA.l1 (mkS (pre++(part k c++post))) ((tot+k*u:Nat):Int) ((pre++part k c).length:Int) ((pre++(part k c++post)).length:Int) ((pre++part k c).length:Int):=by
 unfold part at *;by_cases h0:k=0
 ·subst h0;rw[if_pos rfl,lN2,qM2,Nat.zero_mul,jP2]
 ·rw[if_neg h0]at hl ⊢;have e:Lib.decDigits k++[c]++post=Lib.decDigits k++c::post:=by simp
  have hp:=fX1 k;have h9:=(jI k).2 hk;have hq:(pre++(Lib.decDigits k++[c])).length=pre.length+(Lib.decDigits k).length+1:=by simp;omega
  rw[hq];rw[e]at hl ⊢;have:=xN1 pre (Lib.decDigits k) post c tot u hl (kV k) (by omega) (by omega) hu ht (by rw[uN];exact hv);rw[uN]at this;exact this
theorem yI2 (s:List UInt8) (n:Nat) (a:Int) (h1:1≤n) (h2:n≤2147483648) (hs:s=durT n) (hl:s.length≤100000):gA.l1 (mkS s) (n:Int) a (s.length:Int) (s.length:Int)=some ((n:Int),0,()):=by rw[gA.l1_eq,rF1 n h1 h2,←hs];simp(disch:=omega)only[ss,mE,gA.l5_eq]
theorem rW (n:Nat) (h1:1≤n) (h2:n≤2147483648):gA.f (mkS (durT n))=some ((n:Int),0,()):=by
 have l1:=lF 68 (show n/86400≤999999999 by omega);have l2:=lF 72 (show n%86400/3600≤999999999 by omega);have l3:=lF 77 (show n%86400/60%60≤999999999 by omega);have l4:=lF 83 (show n%86400%60≤999999999 by omega);have l5:=(jI (n/604800)).2 (by omega);have hne:durT n≠[]:=by
  unfold durT;split
  ·simp
  ·split <;> simp
 have h80:(durT n).getD 0 0=80:=by
  unfold durT;split
  ·rfl
  ·split <;> rfl
 obtain⟨s,hs⟩:∃s,s=durT n:=⟨_,rfl⟩
 have hlen:s.length≤60:=by
  rw[hs];unfold durT;split
  ·simp only[cM2,gM2];omega
  ·split
   ·simp only[cM2,gM2];omega
   ·simp only[cM2,gM2];omega
 rw[←hs]at hne h80 ⊢;have hp:0<s.length:=hO2.2 hne;have hne':mkS s≠mkS []:=fun e=>hne (by have:=congrArg B e;exact this)
 have q0:(⟨#[]⟩:ByteArray)=mkS []:=rfl;have hm:=aU1 s 0 0 0 hp (by omega) (.inl h80);rw[tM2]at hm;rw[gA.f_eq,q0,mE,dn hne',cond_false,szS,hm];have hend:=fun a=>yI2 s n a h1 h2 hs (by omega)
 by_cases c:n%604800=0
 ·have e:s=[80]++(Lib.decDigits (n/604800)++87::[]):=by rw[hs];unfold durT;rw[if_pos c,rM2]
  have hq:n/604800*604800=n:=by omega
  have:=xN1 [80] (Lib.decDigits (n/604800)) [] 87 0 604800 (by rw[←e];omega) (kV _) (fX1 _) (by omega) (.inl ⟨rfl,rfl⟩) (by omega) (by rw[uN];omega);rw[←e,uN,hq,oO2]at this;have hl:([80]:List UInt8).length+(Lib.decDigits (n/604800)).length+1=s.length:=by rw[e];simp;omega
  rw[hl]at this;exact this.trans (hend _)
 ·by_cases c2:n%86400=0
  ·have e:s=[80]++(part (n/86400) 68++[]):=by rw[hs];unfold durT;rw[if_neg c,if_pos c2,qM2]
   have:=vY [80] [] (n/86400) 68 0 86400 (by rw[←e];omega) (by omega) (.inr (.inl ⟨rfl,rfl⟩)) (by omega) (by omega);have hq:0+n/86400*86400=n:=by omega
   rw[←e,hq]at this;have hl:([80]++part (n/86400) 68).length=s.length:=by rw[e,qM2]
   rw[hl]at this;exact this.trans (hend _)
  ·obtain⟨a,ha⟩:∃a,a=n/86400:=⟨_,rfl⟩
   obtain⟨b,hb⟩:∃b,b=n%86400/3600:=⟨_,rfl⟩
   obtain⟨d,hd⟩:∃d,d=n%86400/60%60:=⟨_,rfl⟩
   obtain⟨f,hf⟩:∃f,f=n%86400%60:=⟨_,rfl⟩
   have hn:n=a*86400+b*3600+d*60+f*1:=by omega
   have e:s=[80]++part a 68++([84]++part b 72++part d 77++part f 83):=by rw[hs];unfold durT;rw[if_neg c,if_neg c2,ha,hb,hd,hf]
   rw[←ha]at l1;rw[←hb]at l2;rw[←hd]at l3;rw[←hf]at l4;have e1:s=[80]++(part a 68++([84]++part b 72++part d 77++part f 83)):=by rw[e];simp
   have e2:s=([80]++part a 68++[84])++(part b 72++(part d 77++part f 83)):=by rw[e];simp
   have e3:s=([80]++part a 68++[84]++part b 72)++(part d 77++part f 83):=by rw[e];simp
   have e4:s=([80]++part a 68++[84]++part b 72++part d 77)++(part f 83++[]):=by rw[e];simp
   have t1:=vY [80] ([84]++part b 72++part d 77++part f 83) a 68 0 86400 (by rw[←e1];omega) (by omega) (.inr (.inl ⟨rfl,rfl⟩)) (by omega) (by omega);have t2:=vY ([80]++part a 68++[84]) (part d 77++part f 83) b 72 (0+a*86400) 3600 (by rw[←e2];omega) (by omega) (.inr (.inr (.inl ⟨rfl,rfl⟩))) (by omega) (by omega);have t3:=vY ([80]++part a 68++[84]++part b 72) (part f 83) d 77 (0+a*86400+b*3600) 60 (by rw[←e3];omega) (by omega) (.inr (.inr (.inr (.inl ⟨rfl,rfl⟩)))) (by omega) (by omega);have t4:=vY ([80]++part a 68++[84]++part b 72++part d 77) [] f 83 (0+a*86400+b*3600+d*60) 1 (by rw[←e4];omega) (by omega) (.inr (.inr (.inr (.inr ⟨rfl,rfl⟩)))) (by omega) (by omega);rw[←e1]at t1;rw[←e2]at t2;rw[←e3]at t3;rw[←e4]at t4;have hq:0+a*86400+b*3600+d*60+f*1=n:=by omega
   have hl:([80]++part a 68++[84]++part b 72++part d 77++part f 83).length=s.length:=by rw[e4,qM2]
   rw[hq,hl]at t4
   have hm2:=aU1 s ((0+a*86400:Nat):Int) (([80]++part a 68).length:Int) ([80]++part a 68).length (by rw[e];simp only[cM2,gM2];omega) (by omega) (.inr (by
    rw[e,dM2,cN2 (oM2 _),Nat.sub_self]
    rfl))
   have hl2:([80]++part a 68).length+1=([80]++part a 68++[84]).length:=by simp
   rw[hl2]at hm2;exact t1.trans (hm2.trans (t2.trans (t3.trans (t4.trans (hend _)))))
theorem wI2 (n:Int) (b:Bool):gA.l5 n b=some (if b=true then 0 else n,if b=true then 4 else 0,()):=by rw[gA.l5_eq];cases b <;> rfl
abbrev Mt :Type:=Int×Int×Int×Bool×Rl×List Int×List Int×Unit
def innP (t:Int):Prop:= -62104060800≤t∧t<253370764800
theorem zL2 :bG.f 2=some (-62104060800,()):=by have h:=eI 2 1 1 0 0 0 (-718797) ⟨by decide,by decide⟩ (by omega) (by omega) (by omega);rw[show(-718797:Int)*86400+3600*0+60*0+0 = -62104060800 by omega]at h;rw[bG.f_eq,h];rfl
theorem cL2 :bG.f 9999=some (253370764800,()):=by have h:=eI 9999 1 1 0 0 0 2932532 ⟨by decide,by decide⟩ (by omega) (by omega) (by omega);rw[show(2932532:Int)*86400+3600*0+60*0+0=253370764800 by omega]at h;rw[bG.f_eq,h];rfl
theorem oA1 (t:Int):xE (vK.f t) (innP t):=by
 unfold innP;rw[vK.f_eq,zL2,cL2];by_cases c:t ≥ -62104060800
 ·simp(disch:=omega)only[ss];exact⟨_,rfl,by rw[decide_eq_true_eq];omega⟩
 ·simp(disch:=omega)only[ss];exact⟨_,rfl,by simp;omega⟩
def okM (l:List Int) (j:Nat):Prop:=innP (l.getD j 0)∧adjI l j
def pP (l:List Int):Prop:=(∀j,j<l.length→okM l j)∧l.length≤64
theorem kA2 (l:List Int) (hl:l.length≤1000000):∀(k i:Nat),l.length-i=k→i≤l.length →
  xE (qC.l1 l l (l.length:Int) (i:Int)) ((∀j,i≤j→j<l.length→okM l j)∧l.length≤64):=by
 intro k
 induction k with
 | zero=>
  intro i hk hil;rw[qC.l1_eq];simp(disch:=omega)only[ss];refine⟨_,rfl,?_⟩;rw[decide_eq_true_eq];exact⟨fun h=>⟨fun j h1 h2=>by omega,by omega⟩,fun h=>by omega⟩
 | succ k ih=>
  intro i hk hil;have hlt:i<l.length:=by omega
  have step:okM l i→xE (qC.l2 l l (l.length:Int) (i:Int) false) ((∀j,i≤j→j<l.length→okM l j)∧l.length≤64):=fun h=>by
   rw[qC.l2_eq];simp(disch:=omega)only[ss];refine(ih (i+1) (by omega) (by omega)).iff ⟨fun q=>⟨fun j h1 h2=>?_,q.2⟩,fun q=>⟨fun j h1 h2=>q.1 j (by omega) h2,q.2⟩⟩;by_cases e:j=i
   ·subst e;exact h
   ·exact q.1 j (by omega) h2
  have stop:¬okM l i→xE (qC.l2 l l (l.length:Int) (i:Int) true) ((∀j,i≤j→j<l.length→okM l j)∧l.length≤64):=fun h=>by rw[qC.l2_eq,cond_true];exact⟨false,rfl,by simp;intro q;exact absurd (q i (oM2 _) hlt) h⟩
  obtain⟨b,hb,hi⟩:=oA1 (l.getD i 0);rw[qC.l1_eq];simp(disch:=omega)only[ss,hb]
  cases b with
  | false=> 
   rw[gO2,cond_true];exact stop fun q=>by have:=hi.2 q.1;cases this
  | true=>
   have hin:=hi.1 rfl;rw[oN2,cond_false];by_cases h0:i=0
   ·simp(disch:=omega)only[ss];exact step ⟨hin,fun q=>by omega⟩
   ·simp(disch:=omega)only[ss];by_cases c:l.getD i 0≤l.getD (i-1) 0
    ·rw[dp c];exact stop fun q=>by have:=q.2 (by omega);omega
    ·rw[dn c];exact step ⟨hin,fun _=>by omega⟩
theorem eB1 (l:List Int) (hl:l.length≤1000000):xE (qC.f l) (pP l):=by have:=kA2 l hl _ 0 rfl (iM2 _);rw[tM2]at this;rw[qC.f_eq];exact this.iff ⟨fun q=>⟨fun j hj=>q.1 j (iM2 _) hj,q.2⟩,fun q=>⟨fun j _ hj=>q.1 j hj,q.2⟩⟩
theorem oK1 (s:List UInt8) (hs:s.length≤1000000):∃n b,qB.f (mkS s)=some (n,b,()):=by
 have key:∀(k i:Nat) (v:Int),s.length-i=k→i≤s.length → ∃n b,qB.l1 (mkS s) v (s.length:Int) (i:Int)=some (n,b,()):=by
  intro k
  induction k with
  | zero=>
   intro i v hk hi;rw[qB.l1_eq];simp(disch:=omega)only[ss];exact⟨_,_,rfl⟩
  | succ k ih=>
   intro i v hk hi;have hlt:i<s.length:=by omega
   have hbt:bt (mkS s) (i:Int)=((s.getD i 0).toNat:Int):=kI (mkS s) i;rw[qB.l1_eq];by_cases c1:((s.getD i 0).toNat:Int)<48
   ·simp(disch:=omega)only[ss,szS,hbt,qB.l2_eq];exact⟨_,_,rfl⟩
   ·by_cases c2:((s.getD i 0).toNat:Int)>57
    ·simp(disch:=omega)only[ss,szS,hbt,qB.l2_eq];exact⟨_,_,rfl⟩
    ·simp(disch:=omega)only[ss,szS,hbt,qB.l2_eq];exact ih (i+1) _ (by omega) (by omega)
 have:=key _ 0 0 rfl (iM2 _);rw[tM2]at this;rw[qB.f_eq,szS];exact this
theorem tJ2 (n:Int) (h:¬(1≤n∧n≤2147483648)):qD.f n=some (mkS [],1,()):=by
 rw[qD.f_eq];by_cases c:n<1
 ·rw[dp c,cond_true,qD.l1_eq];rfl
 ·rw[dn c,cond_false,dp (by omega),qD.l1_eq];rfl
def durR (s:List UInt8) (r:Option (Int×Int×Unit)):Prop:=∃n e,r=some (n,e,())∧(e=0 → ∃m:Nat,n=(m:Int)∧1≤m∧m≤2147483648∧s=durT m)
theorem sE2 (s:List UInt8) (hs:s.length≤100000):∀(k i a:Nat) (tot:Int),s.length-i=k→a≤i→i≤s.length→durR s (gA.l1 (mkS s) tot (a:Int) (s.length:Int) (i:Int)):=by
 intro k
 induction k with
 | zero=>
  intro i a tot hk ha hi;have e:i=s.length:=by omega
  subst e;rw[gA.l1_eq];by_cases c:1≤tot∧tot≤2147483648
  ·obtain⟨m,rfl⟩:=gN2 (show 0≤tot by omega);rw[rF1 m (by omega) (by omega)];simp(disch:=omega)only[ss,mE,wI2];by_cases q:mkS (durT m)=mkS s
   ·rw[dp q];exact⟨_,_,rfl,fun _=>⟨m,rfl,by omega,by omega,(congrArg B q).symm⟩⟩
   ·rw[dn q];exact⟨_,_,rfl,fun h=>by simp at h⟩
  ·rw[tJ2 tot c];simp(disch:=omega)only[ss,wI2];exact⟨_,_,rfl,fun h=>by simp at h⟩
 | succ k ih=>
  intro i a tot hk ha hi;have hlt:i<s.length:=by omega
  have hbt:bt (mkS s) (i:Int)=((s.getD i 0).toNat:Int):=kI (mkS s) i;have h3:∀unit:Int,durR s (gA.l3 (mkS s) tot (a:Int) (i:Int) unit (s.length:Int) (i:Int)):=by
   intro unit;have hx:(mkS s).extract a i=mkS ((s.drop a).take (i-a)):=ex_S s a i;obtain⟨n,b,hn⟩:=oK1 ((s.drop a).take (i-a)) (by rw[sM2,aN2];omega);have stop:durR s (some (0,4,())):=⟨_,_,rfl,fun h=>by omega⟩
   have go:∀x,durR s (gA.l4 (mkS s) tot (i:Int) unit n (s.length:Int) (i:Int) x):=by
    intro x;rw[gA.l4_eq]
    cases x with
    | true=>exact stop
    | false=>
     simp(disch:=omega)only[ss];exact ih (i+1) (i+1) _ (by omega) (by omega) (by omega)
   rw[gA.l3_eq];simp(disch:=omega)only[ss,szS,hx,hn]
   cases b with
   | false=>exact go true
   | true=>
    rw[oN2,cond_false];by_cases c:((i:Int)-(a:Int))<1
    ·rw[dp c];exact go true
    ·rw[dn c];exact go _
  have h2:∀x,durR s (gA.l2 (mkS s) tot (a:Int) (i:Int) (s.length:Int) (i:Int) x):=by
   intro x;rw[gA.l2_eq]
   cases x with
   | true=>
    simp(disch:=omega)only[ss];exact ih (i+1) (i+1) _ (by omega) (by omega) (by omega)
   | false=>
    simp(disch:=omega)only[ss];exact ih (i+1) a _ (by omega) (by omega) (by omega)
  have two:∀(p:Prop) [Decidable p] {x y:Option (Int×Int×Unit)},durR s x→durR s y→durR s (bif decide p then x else y):=by
   intro p _ x y hx hy;by_cases c:p
   ·rw[dp c];exact hx
   ·rw[dn c];exact hy
  rw[gA.l1_eq];simp(disch:=omega)only[ss,szS,hbt];exact two _ (h3 _) (two _ (h3 _) (two _ (h3 _) (two _ (h3 _) (two _ (h3 _) (two _ (h2 _) (h2 _))))))
theorem uM1 (s:List UInt8) (hs:s.length≤100000):durR s (gA.f (mkS s)):=by
 have q0:(⟨#[]⟩:ByteArray)=mkS []:=rfl;rw[gA.f_eq,q0,mE,szS];by_cases c:mkS s=mkS []
 ·rw[dp c];exact⟨_,_,rfl,fun h=>by omega⟩
 ·rw[dn c];have:=sE2 s hs _ 0 0 0 rfl (oM2 _) (iM2 _);rw[tM2]at this;exact this
theorem xF2 (l:List Int) (hl:l.length≤64) (hr:∀j,j<l.length→adjI l j) (hu:∀t∈l,-62135596800≤t∧t≤253402300799):
  ∀(k i:Nat),l.length-i=k→i≤l.length→mA.l1 ((l.map utx).map mkS) (l.length:Int) (i:Int) (l.take i)=some (l,true,()):=by
 have hlim:wC=17179869184:=rfl;intro k
 induction k with
 | zero=>
  intro i hk hi;have e:i=l.length:=by omega
  subst e;rw[mA.l1_eq,fO2];simp(disch:=omega)only[ss]
 | succ k ih=>
  intro i hk hi;have hlt:i<l.length:=by omega
  have hp:=(rJ (l.getD i 0) (hu _ (sC 0 hlt))).2.2;have hg:((l.map utx).map mkS).getD i ByteArray.empty=mkS (utx (l.getD i 0)):=by rw[dM2,uN2,uN2,dM2,nM2 hlt];rfl
  have hll:((l.map utx).map mkS).length=l.length:=by simp
  have htl:(l.take i).length=i:=by rw[sM2];omega
  have:=ih (i+1) (by omega) (by omega);rw[kE 0 hlt]at this;rw[mA.l1_eq];simp(disch:=omega)only[ss,hll,hg,hp,htl];by_cases c:i=0
  ·simp(disch:=omega)only[ss,mA.l2_eq,mA.l3_eq,htl,gM2,hlim];exact this
  ·have ha:=hr i hlt (by omega);have ht:(l.take i).getD (i-1) 0=l.getD (i-1) 0:=by rw[dM2,List.getElem?_take_of_lt (by omega),←dM2]
   simp(disch:=omega)only[ss,mA.l2_eq,mA.l3_eq,htl,ht,gM2,hlim];exact this
theorem sG1 (l:List Int) (hne:l≠[]) (hl:l.length≤64) (hr:∀j,j<l.length→adjI l j) (hu:∀t∈l,-62135596800≤t∧t≤253402300799):
  mA.f (mkS (jn 44 (l.map utx)))=some (l,true,()):=by
 have hno:∀s∈l.map utx,(44:UInt8)∉s:=by
  intro s hs q;obtain⟨t,ht,rfl⟩:=yM2.1 hs;rcases(pO t (hu t ht)).2.1 _ q with e | e
  ·exact absurd e (by decide)
  ·exact absurd e (by unfold dig;decide)
 have hlen:(jn 44 (l.map utx)).length≤2000:=by
  have h1:=mU1 44 (l.map utx)
  have h2:=mB1 15 (l.map utx) fun s hs=>by obtain⟨t,ht,rfl⟩:=yM2.1 hs;exact(rJ t (hu t ht)).1
  rw[hM2]at h1 h2;omega
 have hS:pD.f (mkS (jn 44 (l.map utx))) ⟨#[44]⟩=some ((segs 44 (jn 44 (l.map utx))).map mkS,()):=uJ (c:=44) _ (by omega);have hsg:=vZ 44 (l.map utx) (by simpa using hne) hno;have:=xF2 l hl hr hu _ 0 rfl (iM2 _);rw[tM2,List.take_zero]at this;rw[mA.f_eq,hS,hsg,eM2,hM2,hM2];exact this
theorem rD2 (X:List (List UInt8)) (hX:X.length≤100000) (hs:∀s∈X,s.length≤1000000):∀(k i:Nat) (y:List Int),X.length-i=k→i≤X.length→y.length=i → ∃l b,mA.l1 (X.map mkS) (X.length:Int) (i:Int) y=some (l,b,())∧l.length≤X.length:=by
 have hlim:wC=17179869184:=rfl;intro k
 induction k with
 | zero=>
  intro i y hk hi hy;rw[mA.l1_eq];simp(disch:=omega)only[ss];exact⟨_,_,rfl,by omega⟩
 | succ k ih=>
  intro i y hk hi hy;have hlt:i<X.length:=by omega
  have hg:(X.map mkS).getD i ByteArray.empty=mkS (X.getD i []):=by rw[dM2,uN2,dM2,nM2 hlt];rfl
  obtain⟨t,e,h1,_⟩:=mH (X.getD i []) (hs _ (sC [] hlt));have hm:(X.map mkS).length=X.length:=hM2 ..;have go:∀b,∃l c,mA.l2 t (X.map mkS) (X.length:Int) (i:Int) b y=some (l,c,())∧l.length≤X.length:=by
   intro b;rw[mA.l2_eq]
   cases b with
   | true=>exact⟨_,_,rfl,iM2 _⟩
   | false=>
    simp(disch:=omega)only[ss,mA.l3_eq,hy,gM2,hlim];exact ih (i+1) _ (by omega) (by omega) (by rw[cM2,hy];rfl)
  rw[mA.l1_eq];simp(disch:=omega)only[ss,hm,hg,h1];by_cases c1:e=0
  ·simp(disch:=omega)only[ss];by_cases c2:(i:Int)≥64
   ·rw[dp c2];exact go true
   ·rw[dn c2];by_cases c3:(i:Int)>0
    ·simp(disch:=omega)only[ss,hy];exact go _
    ·simp(disch:=omega)only[ss];exact go _
  ·rw[dn c1];exact go true
theorem hV1 (s:List UInt8) (hs:s.length≤50000):∃l b,mA.f (mkS s)=some (l,b,())∧l.length≤50001:=by have hS:pD.f (mkS s) ⟨#[44]⟩=some ((segs 44 s).map mkS,()):=uJ (c:=44) _ (by omega);have hsl:=cN 44 s;obtain⟨l,b,h1,h2⟩:=rD2 (segs 44 s) (by omega) (fun t ht=>by have:=hsl.2 t ht;omega) _ 0 [] rfl (iM2 _) rfl;rw[tM2]at h1;rw[mA.f_eq,hS,eM2,hM2];exact⟨l,b,h1,by omega⟩
theorem mO1 (l:List Int) (h:l.length≤64) (hu:∀t∈l,-62135596800≤t∧t≤253402300799):kG.f l=some (mkS (jn 44 (l.map utx)),()):=by
 have hlim:wC=17179869184:=rfl;have hlen:(jn 44 (l.map utx)).length≤2000:=by
  have h1:=mU1 44 (l.map utx)
  have h2:=mB1 15 (l.map utx) fun s hs=>by obtain⟨t,ht,rfl⟩:=yM2.1 hs;exact(rJ t (hu t ht)).1
  rw[hM2]at h1 h2;omega
 have hJ:=bV1 (l.map utx) (by rw[hM2];omega) (by omega);have key:∀(k i:Nat),l.length-i=k→i≤l.length→kG.l1 l (l.length:Int) (i:Int) (((l.take i).map utx).map mkS)=some (mkS (jn 44 (l.map utx)),()):=by
  intro k
  induction k with
  | zero=>
   intro i hk hil;have e:i=l.length:=by omega
   subst e;rw[kG.l1_eq,fO2,hJ];simp(disch:=omega)only[ss]
  | succ k ih=>
   intro i hk hil;have hlt:i<l.length:=by omega
   have hI:=(rJ _ (hu _ (sC 0 hlt))).2.1;have:=ih (i+1) (by omega) (by omega);rw[kE 0 hlt,uM2,uM2]at this;have hl1:(((l.take i).map utx).map mkS).length=i:=by simp;omega
   rw[kG.l1_eq];simp(disch:=omega)only[ss,hI,hl1,gM2,hlim];exact this
 have:=key _ 0 rfl (iM2 _);rw[tM2]at this;rw[kG.f_eq];exact this
def mayM (m:Mt):Prop:=0≤m.1∧m.1<16∧innP m.2.1∧1≤m.2.2.1∧m.2.2.1≤2678400∧pP m.2.2.2.2.2.1∧pP m.2.2.2.2.2.2.1 ∧
 (m.2.2.2.1=true→xA.f m.2.2.2.2.1=some (true,()))∧(m.2.2.2.1=false→m.2.2.2.2.1=zR)
def iF (m:Mt):Prop:=cL m.2.2.2.2.1∧m.2.2.2.2.2.1.length≤1000000∧m.2.2.2.2.2.2.1.length≤1000000
theorem aH2 (m:Mt):∃b,fF.f m=some (b,())∧(b=true→iF m):=by
 obtain⟨b,h1,h2⟩:=aB2 m.2.2.2.2.1;rw[fF.f_eq,h1]
 cases b with
 | false=>exact⟨false,rfl,fun h=>by cases h⟩
 | true=>
  simp(disch:=omega)only[ss];by_cases c:(m.2.2.2.2.2.1.length:Int)≤400
  ·rw[dp c];refine⟨_,rfl,fun h=>⟨h2 rfl,by omega,?_⟩⟩;rw[decide_eq_true_eq]at h;omega
  ·rw[dn c];exact⟨_,rfl,fun h=>by cases h⟩
theorem eR1 (m:Mt) (h:iF m):xE (yD.f m) (mayM m):=by
 obtain⟨z,st,du,rc,r,da,ex,⟨⟩⟩:=m;obtain⟨h1,h2,h3⟩:=h;dsimp only at h1 h2 h3
 have stop:¬mayM (z,st,du,rc,r,da,ex,())→xE (yD.l1 true (z,st,du,rc,r,da,ex,())) (mayM (z,st,du,rc,r,da,ex,())):=fun q=>by rw[yD.l1_eq,cond_true];exact⟨false,rfl,by simp[q]⟩
 obtain⟨b1,g1,k1⟩:=oA1 st;obtain⟨b2,g2,k2⟩:=eB1 da h2;obtain⟨b3,g3,k3⟩:=eB1 ex h3;unfold mayM at stop ⊢;dsimp only at stop ⊢;rw[yD.f_eq];dsimp only;by_cases c1:z<0
 ·rw[dp c1];exact stop fun q=>by omega
 rw[dn c1,cond_false];by_cases c2:z≥16
 ·rw[dp c2];exact stop fun q=>by omega
 rw[dn c2,cond_false,g1]
 cases b1 with
 | false=>exact stop fun q=>by have:=k1.2 q.2.2.1;cases this
 | true=>
 simp(disch:=omega)only[ss];by_cases c3:du<1
 ·rw[dp c3];exact stop fun q=>by omega
 rw[dn c3,cond_false];by_cases c4:du>2678400
 ·rw[dp c4];exact stop fun q=>by omega
 rw[dn c4,cond_false,g2]
 cases b2 with
 | false=>exact stop fun q=>by have:=k2.2 q.2.2.2.2.2.1;cases this
 | true=>
 simp(disch:=omega)only[ss,g3]
 cases b3 with
 | false=>exact stop fun q=>by have:=k3.2 q.2.2.2.2.2.2.1;cases this
 | true=>
 rw[oN2,yD.l1_eq,cond_false];dsimp only;have base:0≤z∧z<16∧innP st∧1≤du∧du≤2678400∧pP da∧pP ex:=⟨by omega,by omega,k1.1 rfl,by omega,by omega,k2.1 rfl,k3.1 rfl⟩
 obtain⟨i1,i2,i3,i4,i5,i6,i7⟩:=base
 cases rc with
 | true=>
  obtain⟨b,hb⟩:=qC1 r h1;rw[cond_true,hb];refine⟨b,rfl,fun e=>⟨i1,i2,i3,i4,i5,i6,i7,(fun _=>by rw[←e]),(fun e=>by cases e)⟩,fun q=>?_⟩;have:=q.2.2.2.2.2.2.2.1 rfl;exact congrArg Prod.fst (iN2 this)
 | false=>
  obtain⟨b,hb,hq⟩:=bB1 r zR h1;have hb:eE.f r (0,0,0,0,0,false,[],[],[],[],[],[],[],[],[],())=some (b,()):=hb;rw[cond_false,hb];exact⟨b,rfl,fun e=>⟨i1,i2,i3,i4,i5,i6,i7,(fun e=>by cases e),fun _=>hq.1 e⟩,fun q=>hq.2 (q.2.2.2.2.2.2.2.2 rfl)⟩
def F0 :List UInt8:=[68,84,83,84,65,82,84,59,84,90,73,68,61]
def F1 :List UInt8:=[68,85,82,65,84,73,79,78,58]
def F2 :List UInt8:=[82,82,85,76,69,58]
def F3 :List UInt8:=[82,68,65,84,69,58]
def F4 :List UInt8:=[69,88,68,65,84,69,58]
theorem fr0 :mD.f 0=some (mkS F0,()):=by rw[mD.f_eq];rfl
theorem fr1 :mD.f 1=some (mkS F1,()):=by rw[mD.f_eq];rfl
theorem fr2 :mD.f 2=some (mkS F2,()):=by rw[mD.f_eq];rfl
theorem fr3 :mD.f 3=some (mkS F3,()):=by rw[mD.f_eq];rfl
theorem fr4 :mD.f 4=some (mkS F4,()):=by rw[mD.f_eq];rfl
noncomputable def v0 (m:Mt):List UInt8:=Lib.decDigits m.1.toNat++58::utx m.2.1
noncomputable def optL (b:Bool) (l:List UInt8):List (List UInt8):=bif b then [l]else []
noncomputable def yB (m:Mt):List (List UInt8):=
 [F0++v0 m,F1++durT m.2.2.1.toNat]++optL m.2.2.2.1 (F2++jn 59 (pts m.2.2.2.2.1))++optL (decide (0<m.2.2.2.2.2.1.length)) (F3++jn 44 (m.2.2.2.2.2.1.map utx))++optL (decide (0<m.2.2.2.2.2.2.1.length)) (F4++jn 44 (m.2.2.2.2.2.2.1.map utx))
theorem oJ {l:List Int} (h:pP l):l.length≤64∧(∀j,j<l.length→adjI l j) ∧ ∀t∈l,innP t:=by refine⟨h.2,fun j hj=>(h.1 j hj).2,fun t ht=>?_⟩;obtain⟨j,hj,rfl⟩:=pP2 ht;have:=(h.1 j hj).1;rwa[dM2,nM2 hj]at this
theorem aH {t:Int} (h:innP t): -62135596800≤t∧t≤253402300799:=by unfold innP at h;omega
theorem kJ1 (n:Nat) (h:n≤2147483648):(durT n).length≤60:=by
 have l1:=lF 68 (show n/86400≤999999999 by omega);have l2:=lF 72 (show n%86400/3600≤999999999 by omega);have l3:=lF 77 (show n%86400/60%60≤999999999 by omega);have l4:=lF 83 (show n%86400%60≤999999999 by omega);have l5:=(jI (n/604800)).2 (by omega);unfold durT;split
 ·simp only[cM2,gM2];omega
 ·split
  ·simp only[cM2,gM2];omega
  ·simp only[cM2,gM2];omega
theorem lN (l:List Int) (h:l.length≤64) (hu:∀t∈l,-62135596800≤t∧t≤253402300799):(jn 44 (l.map utx)).length≤1100:=by
 have h1:=mU1 44 (l.map utx)
 have h2:=mB1 15 (l.map utx) fun s hs=>by obtain⟨t,ht,rfl⟩:=yM2.1 hs;exact(rJ t (hu t ht)).1
 rw[hM2]at h1 h2;omega
theorem aW1 (m:Mt) (hs:iF m) (hM:mayM m):jC.f m=(mB.f ((yB m).map mkS)).bind fun t=>some t:=by
 obtain⟨b,hb,hb2⟩:=eR1 m hs;have hb1:b=true:=hb2.2 hM;subst hb1;obtain⟨z,st,du,rc,r,da,ex,⟨⟩⟩:=m;obtain⟨s1,s2,s3⟩:=hs;obtain⟨m1,m2,m3,m4,m5,m6,m7,m8,m9⟩:=hM;dsimp only at s1 s2 s3 m1 m2 m3 m4 m5 m6 m7 m8 m9;have hlim:wC=17179869184:=rfl;obtain⟨d1,d2,d3⟩:=oJ m6;obtain⟨e1,e2,e3⟩:=oJ m7;obtain⟨n,rfl⟩:=gN2 (show 0≤du by omega);obtain⟨zn,rfl⟩:=gN2 m1;have u0:=rJ st (aH m3);have hda:=mO1 da d1 fun t ht=>aH (d3 t ht)
 have hex:=mO1 ex e1 fun t ht=>aH (e3 t ht)
 have lda:=lN da d1 fun t ht=>aH (d3 t ht)
 have lex:=lN ex e1 fun t ht=>aH (e3 t ht)
 have hdt:=rF1 n (by omega) (by omega);have ldt:=kJ1 n (by omega);have hI:=xM1 zn (by omega);have lD:=(jI zn).2 (by omega);have q58:(⟨#[58]⟩:ByteArray)=mkS [58]:=rfl;have lF0:F0.length=13:=rfl;have lF1:F1.length=9:=rfl;have lF2:F2.length=6:=rfl;have lF3:F3.length=6:=rfl;have lF4:F4.length=7:=rfl;have k3:∀L:List (List UInt8),jC.l3 (L.map mkS)=(mB.f (L.map mkS)).bind fun t=>some t:=fun L=>by rw[jC.l3_eq]
 have k2:∀L:List (List UInt8),L.length≤10→jC.l2 ((zn:Int),st,(n:Int),rc,r,da,ex,()) (L.map mkS)=(mB.f ((L++optL (decide (0<ex.length)) (F4++jn 44 (ex.map utx))).map mkS)).bind fun t=>some t:=by
  intro L hL;have hml:(L.map mkS).length=L.length:=hM2 ..;rw[jC.l2_eq];dsimp only;by_cases c:(ex.length:Int)>0
  ·have ho:optL (decide (0<ex.length)) (F4++jn 44 (ex.map utx))=[F4++jn 44 (ex.map utx)]:=by rw[dp (by omega)];rfl
   have:=k3 (L++[F4++jn 44 (ex.map utx)]);rw[uM2]at this;rw[ho,uM2];simp(disch:=omega)only[ss,fr4,hex,szS,lF4,cE,hml,gM2,hlim];exact this
  ·have ho:optL (decide (0<ex.length)) (F4++jn 44 (ex.map utx))=[]:=by rw[dn (by omega)];rfl
   rw[ho,qM2,dn c,cond_false];exact k3 L
 have k1:∀L:List (List UInt8),L.length≤9→jC.l1 ((zn:Int),st,(n:Int),rc,r,da,ex,()) (L.map mkS)=(mB.f ((L++optL (decide (0<da.length)) (F3++jn 44 (da.map utx))++optL (decide (0<ex.length)) (F4++jn 44 (ex.map utx))).map mkS)).bind fun t=>some t:=by
  intro L hL;have hml:(L.map mkS).length=L.length:=hM2 ..;rw[jC.l1_eq];dsimp only;by_cases c:(da.length:Int)>0
  ·have ho:optL (decide (0<da.length)) (F3++jn 44 (da.map utx))=[F3++jn 44 (da.map utx)]:=by rw[dp (by omega)];rfl
   have:=k2 (L++[F3++jn 44 (da.map utx)]) (by rw[cM2,gM2];omega);rw[uM2]at this;rw[ho];simp(disch:=omega)only[ss,fr3,hda,szS,lF3,cE,hml,gM2,hlim];exact this
  ·have ho:optL (decide (0<da.length)) (F3++jn 44 (da.map utx))=[]:=by rw[dn (by omega)];rfl
   rw[ho,qM2,dn c,cond_false];exact k2 L (by omega)
 have hv:F0++Lib.decDigits zn++[58]++utx st=F0++v0 ((zn:Int),st,(n:Int),rc,r,da,ex,()):=by unfold v0;simp
 have hu0:=u0.1;rw[jC.f_eq,hb];dsimp only
 cases rc with
 | true=>
  obtain⟨p1,p2⟩:=iG1 r s1 (m8 rfl);have:=k1 [F0++v0 ((zn:Int),st,(n:Int),true,r,da,ex,()),F1++durT n,F2++jn 59 (pts r)] (by simp);simp(disch:=omega)only[ss,u0.2.1,hdt,fr0,fr1,fr2,hI,p1,q58,szS,cE,cM2,lF0,lF1,lF2,gM2,kM2,xM2,hlim,hv];exact this
 | false=>
  have:=k1 [F0++v0 ((zn:Int),st,(n:Int),false,r,da,ex,()),F1++durT n] (by simp);simp(disch:=omega)only[ss,u0.2.1,hdt,fr0,fr1,hI,q58,szS,cE,cM2,lF0,lF1,gM2,hv];exact this
theorem wQ1 (z:Nat) (t:Int) (hz:z≤15) (ht: -62135596800≤t∧t≤253402300799):tD.f (mkS (Lib.decDigits z++58::utx t))=some ((z:Int),t,true,()):=by
 have hD:=(jI z).2 (by omega);have hno:(58:UInt8)∉Lib.decDigits z:=fun q=>absurd (kV z _ q) (by unfold dig;decide)
 have hu:=rJ t ht;have hC:aE.f (mkS (Lib.decDigits z++58::utx t)) ⟨#[58]⟩=some (mkS (Lib.decDigits z),mkS (utx t),true,()):=jR (c:=58) (by omega) hno;have hi:Lib.itoa (z:Int)=Lib.decDigits z:=by rw[mF (by omega),cO2]
 have hA:sG.f (mkS (Lib.decDigits z))=some ((z:Int),true,()):=by
  have hr:gK (mkS (Lib.decDigits z))=((z:Int),true):=by rw[←hi];unfold gK;rw[show(mkS (Lib.itoa (z:Int))).data.toList=Lib.itoa (z:Int)from rfl,vS (by omega) (by omega)]
  rw[cR _ (by omega),hr]
 have hI:=xM1 z (by omega);have hT:=dP (Lib.decDigits z) (by omega);have hh:¬(Lib.decDigits z).head?=some 45:=by
  intro q
  cases hDD:Lib.decDigits z with
  | nil=>exact D_ne _ hDD
  | cons c r=>
   rw[hDD]at q;simp at q;have:=(nY hDD).2;rw[q]at this;exact this rfl
 rw[if_neg hh]at hT;rw[tD.f_eq,hC];simp(disch:=omega)only[ss,hA,hI,hu.2.2,hT,mE,szS]
theorem qO1 (s:List UInt8) (hs:s.length≤1000000):∃n t b,tD.f (mkS s)=some (n,t,b,()):=by
 rw[tD.f_eq]
 have fin:∀(a b:List UInt8) (q:Bool),a.length≤1000000→b.length≤1000000→aE.f (mkS s) ⟨#[58]⟩=some (mkS a,mkS b,q,()) → ∃n t b,((aE.f (mkS s) ⟨#[58]⟩).bind fun t1=>(sG.f t1.1).bind fun t2=>(gB.f t1.2.1).bind fun t3=>bif t1.2.2.1 then(bif t2.2.1 then((nD.f t2.1).bind fun t4=>bif(t4.1.toList==t1.1.toList)then((aF.f t1.1 ⟨#[45]⟩).bind fun t5=>bif decide ((t5.1.size:Int)≤9)then(some (t2.1,t3.1,decide (t3.2.1=0),()))else(some (t2.1,t3.1,false,())))else(some (t2.1,t3.1,false,())))else(some (t2.1,t3.1,false,())))else(some (t2.1,t3.1,false,())))=some (n,t,b,()):=by
  intro a b q ha hb hC;have hr:=yC1 (mkS a);have hA:=cR a ha;have hI:=lK _ hr.1 hr.2;have hT:=dP a ha;obtain⟨t,e,hp,_⟩:=mH b hb;rw[hC];simp only[eM2,hA,hp]
  cases q with
  | false=>exact⟨_,_,_,rfl⟩
  | true=>
   rw[cond_true]
   cases(gK (mkS a)).2 with
   | false=>exact⟨_,_,_,rfl⟩
   | true=>
    rw[cond_true,hI];simp only[eM2];cases((mkS (Lib.itoa (gK (mkS a)).1)).toList==(mkS a).toList)with
    | false=>exact⟨_,_,_,rfl⟩
    | true=>
     rw[cond_true,hT];simp only[eM2];by_cases c:(((mkS (if a.head?=some 45 then a.tail else a)).size:Nat):Int)≤9
     ·rw[dp c];exact⟨_,_,_,rfl⟩
     ·rw[dn c];exact⟨_,_,_,rfl⟩
 rcases uI (c:=58) (l:=s)with h | ⟨a,b,rfl,ha⟩
 ·exact fin s [] false hs (iM2 _) (eW (s:=mkS s) (c:=58) h)
 ·have hl:(a++58::b).length=a.length+b.length+1:=by simp;omega
  exact fin a b true (by omega) (by omega) (jR (c:=58) (by omega) ha)
def Fr :Nat→List UInt8
 | 0=>F0
 | 1=>F1
 | 2=>F2
 | 3=>F3
 | _=>F4
theorem fr_k (k:Nat) (hk:k<5):mD.f (k:Int)=some (mkS (Fr k),()):=by
 have:k=0∨k=1∨k=2∨k=3∨k=4:=by omega
 rcases this with rfl | rfl | rfl | rfl | rfl
 ·exact fr0
 ·exact fr1
 ·exact fr2
 ·exact fr3
 ·exact fr4
def pf (F s:List UInt8):Bool:=decide (s.take F.length=F)
theorem eO (s F:List UInt8):sD.f (mkS s) (mkS F)=some (pf F s,()):=by
 unfold pf;rw[sD.f_eq,iD.f_eq,szS,szS];by_cases c:(s.length:Int)≥(F.length:Int)
 ·have e:(mkS s).extract 0 F.length=mkS (s.take F.length):=lI (by rw[sO,B_mk,B_mk]);have hd:(mkS (s.take F.length)=mkS F)↔s.take F.length=F:=⟨fun h=>congrArg B h,fun h=>by rw[h]⟩
  simp(disch:=omega)only[ss,mE,e];rw[decide_eq_decide.2 hd]
 ·rw[dn c,cond_false,dn (fun h=>c (by have:=congrArg List.length h;rw[sM2]at this;omega))];rfl
theorem pN (k:Nat) (v:List UInt8):pf (Fr k) (Fr k++v)=true:=by unfold pf;rw[lO2];exact dp rfl
theorem bJ1 (j k:Nat) (hj:j<5) (hk:k<5) (h:j≠k) (v:List UInt8):pf (Fr j) (Fr k++v)=false:=by
 have a:j=0∨j=1∨j=2∨j=3∨j=4:=by omega
 have b:k=0∨k=1∨k=2∨k=3∨k=4:=by omega
 unfold pf;refine dn fun e=>?_
 have e2:=congrArg (List.take 2) e;rcases a with rfl | rfl | rfl | rfl | rfl <;> rcases b with rfl | rfl | rfl | rfl | rfl <;> first | exact h rfl | (simp[Fr,F0,F1,F2,F3,F4]at e2)
abbrev zM :Mt:=(0,0,0,false,zR,[],[],())
abbrev Rs :Type:=Option (Mt×Int×Int×Unit)
def bad9 (i:Int):Rs:=some (zM,i,4,())
noncomputable def QA (X:List ByteArray) (nx i:Int) (y:Mt):Rs:=kA.l1a X nx X (X.length:Int) i 0 0 0 false 0 0 0 0 0 false y
noncomputable def QB (X:List ByteArray) (s:ByteArray) (nx i:Int) (y:Mt):Rs:=kA.l2a X i s nx X (X.length:Int) i 0 0 0 false 0 0 0 0 0 false y
noncomputable def QC (X:List ByteArray) (nx i:Int) (b:Bool) (y:Mt):Rs:=bif b then bad9 i else QA X (nx+1) (i+1) y
theorem nI2 (X:List ByteArray) (nx i:Nat) (b:Bool) (y:Mt) (h:nx<10) (h2:i<1000000):kA.l5a X (i:Int) (nx:Int) X (X.length:Int) (i:Int) b 0 0 0 false 0 0 0 0 0 false y=QC X nx i b y:=by
 rw[kA.l5a_eq];unfold QC QA bad9
 cases b with
 | true=>rfl
 | false=>simp(disch:=omega)only[ss]
theorem gB1 (X:List ByteArray) (s:List UInt8) (k i:Nat) (y:Mt) (hk:k<5) (hi:i<1000000) (hp:pf (Fr k) s=true):
  QB X (mkS s) k i y=(oC.f y (k:Int) (mkS (s.drop (Fr k).length))).bind fun t=>QC X k i (!t.1) t.2.1:=by
 have hl:(Fr k).length≤s.length:=by unfold pf at hp;have:=congrArg List.length (of_decide_eq_true hp);rw[sM2]at this;omega
 have hx:(mkS s).extract (Fr k).length s.length=mkS (s.drop (Fr k).length):=lI (by rw[←szS s,qL,B_mk,B_mk]);unfold QB;rw[kA.l2a_eq];simp(disch:=omega)only[ss,fr_k k hk,eO,hp,kA.l3a_eq];rw[kA.l4a_eq];simp(disch:=omega)only[ss,fr_k k hk,eO,hp,szS,hx]
 congr 1
 funext t
 exact nI2 X k i _ _ (by omega) hi
theorem lQ1 (X:List ByteArray) (s:List UInt8) (k i:Nat) (y:Mt) (hk:k<5) (h2:2≤k) (hp:pf (Fr k) s=false):QB X (mkS s) k i y=QB X (mkS s) ((k+1:Nat):Int) i y:=by
 unfold QB
 conv=>lhs;rw[kA.l2a_eq]
 simp(disch:=omega)only[ss,fr_k k hk,eO,hp,kA.l3a_eq];rfl
theorem kS1 (X:List ByteArray) (s:List UInt8) (i:Nat) (y:Mt):QB X (mkS s) 5 i y=bad9 i:=by unfold QB;rw[kA.l2a_eq];simp(disch:=omega)only[ss,kA.l3a_eq];rw[kA.l4a_eq];simp(disch:=omega)only[ss,kA.l5a_eq];rfl
theorem mX (X:List ByteArray) (s:List UInt8) (k i:Nat) (y:Mt) (hk:k<2) (hp:pf (Fr k) s=false):QB X (mkS s) k i y=bad9 i:=by unfold QB;rw[kA.l2a_eq];simp(disch:=omega)only[ss,fr_k k (by omega),eO,hp,kA.l3a_eq];rw[kA.l4a_eq];simp(disch:=omega)only[ss,fr_k k (by omega),eO,hp,kA.l5a_eq];rfl
theorem uP1 (X:List ByteArray) (s:List UInt8) (nx i:Nat) (y:Mt) (hi:i<X.length) (hX:X.getD i ByteArray.empty=mkS s):QA X nx i y=QB X (mkS s) nx i y:=by unfold QA QB;rw[kA.l1a_eq];simp(disch:=omega)only[ss,hX]
theorem uG1 (X:List ByteArray) (nx:Nat) (y:Mt):QA X nx X.length y=if nx≤1 then some (zM,(X.length:Int),2,())else(yD.f y).bind fun t=>bif !t.1 then some (zM,0,1,())else some (y,0,0,()):=by
 unfold QA;rw[kA.l1a_eq];by_cases c:nx≤1
 ·rw[if_pos c];simp(disch:=omega)only[ss];rfl
 ·rw[if_neg c];simp(disch:=omega)only[ss];rfl
theorem wT (X:List ByteArray) (s:List UInt8) (hi:0<X.length) (hX:X.getD 0 ByteArray.empty=mkS s):
  kA.l1 X 0 X (X.length:Int) 0 0 0 0 false 0 0 0 0 0 false 0 0 0 false 0 0 0 0 0 false=bif pf F0 s then(oC.f zM 0 (mkS (s.drop F0.length))).bind fun t=>QC X ((0:Nat):Int) ((0:Nat):Int) (!t.1) t.2.1 else bad9 0:=by
 have t0:(0:Int).toNat=0:=rfl;rw[kA.l1_eq];simp(disch:=omega)only[ss,t0,hX];rw[kA.l2_eq];simp(disch:=omega)only[ss,fr0,eO]
 cases hp:pf F0 s with
 | false=>
  simp(disch:=omega)only[ss,kA.l3_eq];rw[kA.l4_eq];simp(disch:=omega)only[ss,fr0,eO,hp,kA.l5_eq];rfl
 | true=>
  have hl:F0.length≤s.length:=by unfold pf at hp;have:=congrArg List.length (of_decide_eq_true hp);rw[sM2]at this;omega
  have hx:(mkS s).extract F0.length s.length=mkS (s.drop F0.length):=lI (by rw[←szS s,qL,B_mk,B_mk]);simp(disch:=omega)only[ss,kA.l3_eq];rw[kA.l4_eq];simp(disch:=omega)only[ss,fr0,eO,hp,szS,hx]
  congr 1
  funext t
  exact nI2 X 0 0 _ _ (by omega) (by omega)
theorem cP :cL zR:=by unfold cL kT zR;simp
theorem rK (m:Mt) (k:Nat) (s:List UInt8) (hk:k<5) (hs:s.length≤4096) (hm:iF m):∃b m',oC.f m (k:Int) (mkS s)=some (b,m',())∧iF m':=by
 rw[oC.f_eq];obtain⟨h1',h2',h3'⟩:=hm;obtain⟨n1,t1,b1,h1⟩:=qO1 s (by omega);obtain⟨n2,e2,h2,_⟩:=uM1 s (by omega);obtain⟨l4,b4,h4,h5⟩:=hV1 s (by omega);have h3:∃R n e,zA.f (mkS s)=some (R,n,e,())∧cL R:=by
  rcases jJ1 s (by omega)with⟨R,h,q,_⟩ | ⟨n,e,h,_⟩
  ·exact⟨_,_,_,h,mE2 q⟩
  ·exact⟨_,_,_,h,cP⟩
 obtain⟨R,n3,e3,h3,hR⟩:=h3;have:k=0∨k=1∨k=2∨k=3∨k=4:=by omega
 rcases this with rfl | rfl | rfl | rfl | rfl
 ·simp(disch:=omega)only[ss,h1];exact⟨_,_,rfl,h1',h2',h3'⟩
 ·simp(disch:=omega)only[ss,h2];exact⟨_,_,rfl,h1',h2',h3'⟩
 ·simp(disch:=omega)only[ss,h3];exact⟨_,_,rfl,hR,h2',h3'⟩
 ·simp(disch:=omega)only[ss,h4];exact⟨_,_,rfl,h1',by show l4.length≤_;omega,h3'⟩
 ·simp(disch:=omega)only[ss,h4];exact⟨_,_,rfl,h1',h2',by show l4.length≤_;omega⟩
def Told (r:Rs):Prop:=∃q a e,r=some (q,a,e,())∧(e=0→a=0∧iF q∧yD.f q=some (true,()))∧(e≠0→q=zM)
theorem wR (i:Int):Told (bad9 i):=⟨_,_,_,rfl,(fun e=>by omega),fun _=>rfl⟩
theorem gG2 (X:List (List UInt8)) (hX:X.length≤10000) (hs:∀s∈X,s.length≤4096):∀(n i nx:Nat) (y:Mt),X.length-i=n→i≤X.length→nx≤5→iF y→Told (QA (X.map mkS) (nx:Int) (i:Int) y):=by
 intro n
 induction n with
 | zero=>
  intro i nx y hn hi hx hy;have hm:(X.map mkS).length=X.length:=hM2 ..;have e:i=(X.map mkS).length:=by omega
  rw[e,uG1];by_cases c:nx≤1
  ·rw[if_pos c];exact⟨_,_,_,rfl,(fun e=>by omega),fun _=>rfl⟩
  ·rw[if_neg c];obtain⟨b,hb,_⟩:=eR1 y hy;rw[hb]
   cases b with
   | false=>exact⟨_,_,_,rfl,(fun e=>by omega),fun _=>rfl⟩
   | true=>exact⟨_,_,_,rfl,(fun _=>⟨rfl,hy,hb⟩),fun e=>absurd rfl e⟩
 | succ n ih=>
  intro i nx y hn hi hx hy;have hlt:i<X.length:=by omega
  have hm:(X.map mkS).length=X.length:=hM2 ..;have hg:(X.map mkS).getD i ByteArray.empty=mkS (X.getD i []):=by rw[dM2,uN2,dM2,nM2 hlt];rfl
  have hsl:=hs _ (sC [] hlt);have yes:∀k,k<5→pf (Fr k) (X.getD i [])=true→Told (QB (X.map mkS) (mkS (X.getD i [])) (k:Int) (i:Int) y):=by
   intro k hk hp;obtain⟨b,m',h1,h2⟩:=rK y k ((X.getD i []).drop (Fr k).length) hk (by rw[aN2];omega) hy;rw[gB1 _ _ k i y hk (by omega) hp,h1];simp only[eM2];unfold QC
   cases b with
   | false=>exact wR _
   | true=>exact ih (i+1) (k+1) m' (by omega) (by omega) (by omega) h2
  have more:∀(d k:Nat),5-k=d→2≤k→k≤5→Told (QB (X.map mkS) (mkS (X.getD i [])) (k:Int) (i:Int) y):=by
   intro d
   induction d with
   | zero=>
    intro k hd h2 h5;have:k=5:=by omega
    subst this;rw[show((5:Nat):Int)=5 from rfl,kS1];exact wR _
   | succ d ihd=>
    intro k hd h2 h5;cases hp:pf (Fr k) (X.getD i [])with
    | true=>exact yes k (by omega) hp
    | false=>
     rw[lQ1 _ _ k i y (by omega) h2 hp];exact ihd (k+1) (by omega) (by omega) (by omega)
  rw[uP1 _ (X.getD i []) nx i y (by omega) hg];by_cases c:2≤nx
  ·exact more _ nx rfl c hx
  ·cases hp:pf (Fr nx) (X.getD i [])with
   | true=>exact yes nx (by omega) hp
   | false=>
    rw[mX _ _ nx i y (by omega) hp];exact wR _
theorem zW :∀(raw acc:List (List UInt8)),totF (lJ acc raw)≤totF acc+totF raw∧(lJ acc raw).length≤acc.length+raw.length
 | [],acc=>⟨by simp[lJ,totF],by simp[lJ]⟩
 | s::r,acc=>by have h1:=zW r (glue acc (yF s));have h2:=mD1 acc (yF s);have h3:=vV s;rw[cU,pJ,kM2];omega
theorem sQ1 (l:List UInt8):Told (kA.f (I l)):=by
 rw[kA.f_eq];rcases zN l with h | ⟨h,k,h1,h2,h3⟩ | ⟨h,h1⟩
 ·rw[tQ h];show Told (some (zM,0,3,()));exact⟨_,_,_,rfl,(fun e=>by omega),fun _=>rfl⟩
 ·rw[xT h h1 h2 h3];show Told (some (zM,(k:Int),4,()));exact⟨_,_,_,rfl,(fun e=>by omega),fun _=>rfl⟩
 ·rw[iL h h1];obtain⟨X,hX⟩:∃X,X=lJ [] (uE l):=⟨_,rfl⟩
  rw[←hX];have hp:=gT l;have hl:=zW (uE l) [];rw[←hX]at hl;have h0:totF ([]:List (List UInt8))=0:=rfl;have hn:([]:List (List UInt8)).length=0:=rfl;have hs:∀s∈X,s.length≤4096:=by intro s hs;have:=fS hs;have:0<X.length:=List.length_pos_of_mem hs;omega
  simp(disch:=omega)only[ss];have hm:(X.map mkS).length=X.length:=hM2 ..;by_cases c:0<X.length
  ·have hg:(X.map mkS).getD 0 ByteArray.empty=mkS (X.getD 0 []):=by rw[dM2,uN2,dM2,nM2 c];rfl
   rw[wT (X.map mkS) (X.getD 0 []) (by omega) hg];cases pf F0 (X.getD 0 [])with
   | false=>exact wR 0
   | true=>
    obtain⟨b,m',g1,g2⟩:=rK zM 0 ((X.getD 0 []).drop F0.length) (by omega) (by have:=hs _ (sC [] c);rw[aN2];omega) ⟨cP,iM2 _,iM2 _⟩;rw[tM2]at g1;rw[cond_true,g1];simp only[eM2];unfold QC
    cases b with
    | false=>exact wR _
    | true=>exact gG2 X (by omega) hs _ 1 1 m' rfl (by omega) (by omega) g2
  ·have:X=[]:=wM2 (by omega);subst this;rw[kA.l1_eq];exact⟨_,_,_,rfl,(fun e=>by omega),fun _=>rfl⟩
theorem yL (L:List (List UInt8)) (h:L.all mayB=true) (hl:(rD L).length≤4096):mC.f (I (rD L))=some (L.map mkS,0,0,()):=by rw[iL hl (pT1 _ (cY L h) (xK1 L h)),zU L [] h,lN2]
theorem vT (X:List ByteArray) (i:Nat) (s:ByteArray) (r:List ByteArray) (h:X.drop i=s::r):i<X.length∧X.getD i ByteArray.empty=s∧X.drop (i+1)=r:=by
 have hl:i<X.length:=by have:=congrArg List.length h;rw[aN2,kM2]at this;omega
 rw[nC ByteArray.empty hl]at h;injection h with h1 h2;exact⟨hl,h1,h2⟩
theorem gO1 (X:List ByteArray) (k:Nat) (v:List UInt8) (r:List ByteArray) (i:Nat) (y y':Mt) (hk:k<5) (hi:i<1000) (hd:X.drop i=mkS (Fr k++v)::r) (hy:oC.f y (k:Int) (mkS v)=some (true,y',())):
  ∀(d nx:Nat),k-nx=d→nx≤k→(nx<2→k=nx)→QA X (nx:Int) (i:Int) y=QA X ((k+1:Nat):Int) ((i+1:Nat):Int) y':=by
 obtain⟨hl,hg,hr⟩:=vT X i _ r hd;have base:QB X (mkS (Fr k++v)) (k:Int) (i:Int) y=QA X ((k+1:Nat):Int) ((i+1:Nat):Int) y':=by rw[gB1 X _ k i y hk (by omega) (pN k v),vN2,hy];rfl
 have go:∀(d nx:Nat),k-nx=d→nx≤k→(nx<2→k=nx)→QB X (mkS (Fr k++v)) (nx:Int) (i:Int) y=QA X ((k+1:Nat):Int) ((i+1:Nat):Int) y':=by
  intro d
  induction d with
  | zero=>
   intro nx hd hn h2;have:nx=k:=by omega
   subst this;exact base
  | succ d ih=>
   intro nx hd hn h2;rw[lQ1 X _ nx i y (by omega) (Classical.byContradiction fun q=>by have:=h2 (by omega);omega) (bJ1 nx k (by omega) hk (by omega) v)];exact ih (nx+1) (by omega) (by omega) (fun q=>by have:=h2 (by omega);omega)
 intro d nx h1 h2 h3;rw[uP1 X _ nx i y hl hg];exact go d nx h1 h2 h3
theorem rC1 (X:List ByteArray) (k nx i:Nat) (b:Bool) (v:List UInt8) (rest:List (List UInt8)) (y y':Mt) (h2:2≤nx) (hn:nx≤k) (hk:k<5) (hi:i<1000) (hX:i≤X.length) (hd:X.drop i=(optL b (Fr k++v)++rest).map mkS)
  (hy:b=true→oC.f y (k:Int) (mkS v)=some (true,y',())) (hn':b=false→y'=y):
  ∃nx' i',2≤nx'∧nx'≤k+1∧i'≤i+1∧i'≤X.length∧X.drop i'=rest.map mkS∧QA X (nx:Int) (i:Int) y=QA X (nx':Int) (i':Int) y':=by
 cases b with
 | false=>
  rw[hn' rfl];exact⟨nx,i,h2,by omega,by omega,hX,hd,rfl⟩
 | true=>
  have hd:X.drop i=mkS (Fr k++v)::rest.map mkS:=hd;obtain⟨hl,hg,hr⟩:=vT X i _ _ hd;exact⟨k+1,i+1,by omega,by omega,by omega,by omega,hr,gO1 X k v _ i y y' hk hi hd (hy rfl) _ nx rfl hn (fun q=>by omega)⟩
theorem pY (m:Mt) (hs:iF m) (hM:mayM m):(yB m).all mayB=true:=by
 obtain⟨z,st,du,rc,r,da,ex,⟨⟩⟩:=m;obtain⟨s1,s2,s3⟩:=hs;obtain⟨m1,m2,m3,m4,m5,m6,m7,m8,m9⟩:=hM;dsimp only at s1 s2 s3 m1 m2 m3 m4 m5 m6 m7 m8 m9;obtain⟨d1,d2,d3⟩:=oJ m6;obtain⟨e1,e2,e3⟩:=oJ m7;have pd:∀n,allP (durT n):=by
  intro n;have pp:∀k u,wide [u]=true→allP (part k u):=by
   intro k u hu;unfold part;split
   ·exact fun c hc=>by cases hc
   ·exact bH (tU1 k) (eR hu)
  unfold durT;split
  ·exact bH (bH (eR (by decide)) (tU1 _)) (eR (by decide))
  ·split
   ·exact bH (eR (by decide)) (pp _ _ (by decide))
   ·exact bH (bH (eR (by decide)) (pp _ _ (by decide))) (bH (bH (bH (eR (by decide)) (pp _ _ (by decide))) (pp _ _ (by decide))) (pp _ _ (by decide)))
 have pl:∀l:List Int,(∀t∈l,innP t)→allP (jn 44 (l.map utx)):=by
  intro l hl;refine cK1 44 (by decide) _ fun s hs=>?_
  obtain⟨t,ht,rfl⟩:=yM2.1 hs;exact eN1 t (aH (hl t ht))
 have q:∀(F v:List UInt8),wide F=true→F≠[]→allP v→mayB (F++v)=true:=fun F v hF hne hv=>mJ2 (bH (eR hF) hv) (by simp[hne])
 have o:∀(b:Bool) (F v:List UInt8),wide F=true→F≠[]→(b=true→allP v)→(optL b (F++v)).all mayB=true:=by
  intro b F v h1 h2 h3
  cases b with
  | false=>rfl
  | true=>
   show(mayB (F++v)&&true)=true;rw[q F v h1 h2 (h3 rfl)];rfl
 unfold yB;rw[List.all_append,List.all_append,List.all_append,fM2,fM2,fM2];refine⟨⟨⟨?_,o _ _ _ (by decide) (by decide) fun h=>tZ1 r s1 (m8 h)⟩,o _ _ _ (by decide) (by decide) fun _=>pl da d3⟩,o _ _ _ (by decide) (by decide) fun _=>pl ex e3⟩;have h0:mayB (F0++v0 (z,st,du,rc,r,da,ex,()))=true:=q _ _ (by decide) (by decide) (bH (tU1 _) (bH (a:=[58]) (eR (by decide)) (eN1 st (aH m3))));have h1:mayB (F1++durT du.toNat)=true:=q _ _ (by decide) (by decide) (pd _);show(mayB (F0++v0 (z,st,du,rc,r,da,ex,()))&&(mayB (F1++durT du.toNat)&&true))=true;rw[h0,h1];rfl
theorem rH1 (m:Mt) (hs:iF m) (hM:mayM m) (hl:(rD (yB m)).length≤4096):kA.f (I (rD (yB m)))=some (m,0,0,()):=by
 have hMay:yD.f m=some (true,()):=by obtain⟨b,hb,hb2⟩:=eR1 m hs;rw[hb,hb2.2 hM]
 rw[kA.f_eq,yL _ (pY m hs hM) hl];obtain⟨z,st,du,rc,r,da,ex,⟨⟩⟩:=m;obtain⟨s1,s2,s3⟩:=hs;obtain⟨m1,m2,m3,m4,m5,m6,m7,m8,m9⟩:=hM;dsimp only at s1 s2 s3 m1 m2 m3 m4 m5 m6 m7 m8 m9;obtain⟨d1,d2,d3⟩:=oJ m6;obtain⟨e1,e2,e3⟩:=oJ m7;obtain⟨n,rfl⟩:=gN2 (show 0≤du by omega);obtain⟨zn,rfl⟩:=gN2 m1;obtain⟨X,hX⟩:∃X,X=(yB ((zn:Int),st,(n:Int),rc,r,da,ex,())).map mkS:=⟨_,rfl⟩
 have hX0:X=mkS (Fr 0++v0 ((zn:Int),st,(n:Int),rc,r,da,ex,()))::mkS (Fr 1++durT n)::(optL rc (Fr 2++jn 59 (pts r))++(optL (decide (0<da.length)) (Fr 3++jn 44 (da.map utx))++(optL (decide (0<ex.length)) (Fr 4++jn 44 (ex.map utx))++[]))).map mkS:=by rw[hX];unfold yB;simp[Fr]
 rw[←hX];have g0:X.getD 0 ByteArray.empty=mkS (Fr 0++v0 ((zn:Int),st,(n:Int),rc,r,da,ex,())):=by rw[hX0];rfl
 have dX:X.drop 1=mkS (Fr 1++durT n)::(optL rc (Fr 2++jn 59 (pts r))++(optL (decide (0<da.length)) (Fr 3++jn 44 (da.map utx))++(optL (decide (0<ex.length)) (Fr 4++jn 44 (ex.map utx))++[]))).map mkS:=by rw[hX0];rfl
 have lX:2≤X.length:=by rw[hX0];simp
 have r0:oC.f zM 0 (mkS (v0 ((zn:Int),st,(n:Int),rc,r,da,ex,())))=some (true,((zn:Int),st,0,false,zR,[],[],()),()):=by have:=wQ1 zn st (by omega) (aH m3);unfold v0;rw[oC.f_eq];simp(disch:=omega)only[ss,this]
 have r1:oC.f ((zn:Int),st,0,false,zR,[],[],()) ((1:Nat):Int) (mkS (durT n))=some (true,((zn:Int),st,(n:Int),false,zR,[],[],()),()):=by rw[oC.f_eq];simp(disch:=omega)only[ss,rW n (by omega) (by omega)]
 have r2:rc=true→oC.f ((zn:Int),st,(n:Int),false,zR,[],[],()) ((2:Nat):Int) (mkS (jn 59 (pts r)))=some (true,((zn:Int),st,(n:Int),rc,r,[],[],()),()):=by intro e;subst e;rw[oC.f_eq];simp(disch:=omega)only[ss,eQ1 r s1 (m8 rfl)]
 have r2':rc=false→(((zn:Int),st,(n:Int),rc,r,[],[],()):Mt)=((zn:Int),st,(n:Int),false,zR,[],[],()):=fun e=>by rw[e,m9 e]
 have r3:decide (0<da.length)=true→oC.f ((zn:Int),st,(n:Int),rc,r,[],[],()) ((3:Nat):Int) (mkS (jn 44 (da.map utx)))=some (true,((zn:Int),st,(n:Int),rc,r,da,[],()),()):=by intro e;rw[decide_eq_true_eq]at e;rw[oC.f_eq];simp(disch:=omega)only[ss,sG1 da (hO2.1 e) d1 d2 fun t ht=>aH (d3 t ht)]
 have nil:∀l:List Int,decide (0<l.length)=false→l=[]:=fun l e=>by rw[decide_eq_false_iff_not]at e;exact wM2 (by omega)
 have r4:decide (0<ex.length)=true→oC.f ((zn:Int),st,(n:Int),rc,r,da,[],()) ((4:Nat):Int) (mkS (jn 44 (ex.map utx)))=some (true,((zn:Int),st,(n:Int),rc,r,da,ex,()),()):=by intro e;rw[decide_eq_true_eq]at e;rw[oC.f_eq];simp(disch:=omega)only[ss,sG1 ex (hO2.1 e) e1 e2 fun t ht=>aH (e3 t ht)]
 have t1:=gO1 X 1 (durT n) _ 1 _ _ (by omega) (by omega) dX r1 _ 1 rfl (oM2 _) (fun _=>rfl);have d2':=(vT X 1 _ _ dX).2.2;obtain⟨n3,i3,a1,a2,a3,a4,a5,a6⟩:=rC1 X 2 2 2 rc (jn 59 (pts r)) _ ((zn:Int),st,(n:Int),false,zR,[],[],()) ((zn:Int),st,(n:Int),rc,r,[],[],()) (by omega) (by omega) (by omega) (by omega) lX d2' r2 r2';obtain⟨n4,i4,b1,b2,b3,b4,b5,b6⟩:=rC1 X 3 n3 i3 _ _ _ ((zn:Int),st,(n:Int),rc,r,[],[],()) ((zn:Int),st,(n:Int),rc,r,da,[],()) a1 a2 (by omega) (by omega) a4 a5 r3 (fun e=>by rw[nil da e]);obtain⟨n5,i5,c1,c2,c3,c4,c5,c6⟩:=rC1 X 4 n4 i4 _ _ _ ((zn:Int),st,(n:Int),rc,r,da,[],()) ((zn:Int),st,(n:Int),rc,r,da,ex,()) b1 b2 (by omega) (by omega) b4 b5 r4 (fun e=>by rw[nil ex e]);have h5:i5=X.length:=by have:=congrArg List.length c5;rw[aN2]at this;simp at this;omega
 simp(disch:=omega)only[ss];have hp:pf F0 (Fr 0++v0 ((zn:Int),st,(n:Int),rc,r,da,ex,()))=true:=pN 0 _;have hdr:(Fr 0++v0 ((zn:Int),st,(n:Int),rc,r,da,ex,())).drop F0.length=v0 ((zn:Int),st,(n:Int),rc,r,da,ex,()):=vN2 (l₁:=F0);rw[wT X _ (by omega) g0,hp,cond_true,hdr,r0];simp only[eM2];show QA X (((1:Nat):Int)) (((1:Nat):Int)) _=_;rw[t1];refine a6.trans (b6.trans (c6.trans ?_));rw[h5,uG1,if_neg (by omega),hMay];rfl
theorem vJ1 (a b:Mt) (ha:iF a):xE (bO.f a b) (a=b):=by
 obtain⟨z,st,du,rc,r,da,ex,⟨⟩⟩:=a;obtain⟨z',st',du',rc',r',da',ex',⟨⟩⟩:=b;obtain⟨h1,h2,h3⟩:=ha;dsimp only at h1 h2 h3;have no:∀{p:Prop},¬p→xE (some (false,())) p:=fun h=>⟨false,rfl,by simp[h]⟩
 obtain⟨u,hu,eu⟩:=bB1 r r' h1;rw[bO.f_eq];dsimp only;by_cases c1:z=z'
 ·rw[dp c1,cond_true];by_cases c2:st=st'
  ·rw[dp c2,cond_true];by_cases c3:du=du'
   ·rw[dp c3,cond_true];by_cases c4:rc=rc'
    ·subst c4;rw[beq_self_eq_true,cond_true,hu];simp only[eM2]
     cases u with
     | false=>
      rw[cond_false]
      exact no fun e=>by have:=eu.2 (by injection e with _ e;injection e with _ e;injection e with _ e;injection e with _ e;injection e);cases this
     | true=>
      rw[cond_true,eqI2 da da' h2];simp only[eM2];by_cases c5:da=da'
      ·rw[dp c5,cond_true,eqI2 ex ex' h3];refine⟨_,rfl,?_⟩;rw[decide_eq_true_eq,eu.1 rfl,c1,c2,c3,c5];exact⟨fun e=>by rw[e],fun e=>by injection e with _ e;injection e with _ e;injection e with _ e;injection e with _ e;injection e with _ e;injection e with _ e;injection e⟩
      ·rw[dn c5,cond_false];exact no fun e=>c5 (by injection e with _ e;injection e with _ e;injection e with _ e;injection e with _ e;injection e with _ e;injection e)
    ·rw[show(rc==rc')=false from by cases rc <;> cases rc' <;> first | rfl | exact absurd rfl c4,cond_false];exact no fun e=>c4 (by injection e with _ e;injection e with _ e;injection e with _ e;injection e)
   ·rw[dn c3,cond_false];exact no fun e=>c3 (by injection e with _ e;injection e with _ e;injection e)
  ·rw[dn c2,cond_false];exact no fun e=>c2 (by injection e with _ e;injection e)
 ·rw[dn c1,cond_false];exact no fun e=>c1 (by injection e)
theorem xG1 (m:Mt) (hs:iF m) (hM:¬mayM m):jC.f m=some ([],1,()):=by
 obtain⟨b,hb,hb2⟩:=eR1 m hs
 cases b with
 | true=>exact absurd (hb2.1 rfl) hM
 | false=>
  rw[jC.f_eq,hb];rfl
theorem aD1 (b:Bool) (x:List UInt8) (n:Nat) (h:b=true→x.length≤n):totF (optL b x)≤n∧(optL b x).length≤1:=by
 cases b with
 | false=>exact⟨iM2 _,by unfold optL;simp⟩
 | true=>
  have:=h rfl;unfold optL;simp[totF];exact this
theorem xR (m:Mt) (hs:iF m) (hM:mayM m):(yB m).length≤5∧totF (yB m)≤7000:=by
 obtain⟨z,st,du,rc,r,da,ex,⟨⟩⟩:=m;obtain⟨s1,s2,s3⟩:=hs;obtain⟨m1,m2,m3,m4,m5,m6,m7,m8,m9⟩:=hM;dsimp only at s1 s2 s3 m1 m2 m3 m4 m5 m6 m7 m8 m9;obtain⟨d1,d2,d3⟩:=oJ m6;obtain⟨e1,e2,e3⟩:=oJ m7;have u0:=(rJ st (aH m3)).1;have ldt:=kJ1 du.toNat (by omega);have lD:=(jI z.toNat).2 (by omega);have lda:=lN da d1 fun t ht=>aH (d3 t ht)
 have lex:=lN ex e1 fun t ht=>aH (e3 t ht)
 have lF0:F0.length=13:=rfl;have lF1:F1.length=9:=rfl;have lF2:F2.length=6:=rfl;have lF3:F3.length=6:=rfl;have lF4:F4.length=7:=rfl
 have q2:=aD1 rc (F2++jn 59 (pts r)) 4102 fun h=>by have:=(iG1 r s1 (m8 h)).2;rw[cM2];omega
 have q3:=aD1 (decide (0<da.length)) (F3++jn 44 (da.map utx)) 1106 fun h=>by rw[cM2];omega
 have q4:=aD1 (decide (0<ex.length)) (F4++jn 44 (ex.map utx)) 1107 fun h=>by rw[cM2];omega
 have q0:(F0++v0 (z,st,du,rc,r,da,ex,())).length≤40:=by unfold v0;rw[cM2,cM2,kM2];dsimp only;omega
 have q1:(F1++durT du.toNat).length≤69:=by rw[cM2];omega
 have e:yB (z,st,du,rc,r,da,ex,())=[F0++v0 (z,st,du,rc,r,da,ex,()),F1++durT du.toNat]++optL rc (F2++jn 59 (pts r))++optL (decide (0<da.length)) (F3++jn 44 (da.map utx))++optL (decide (0<ex.length)) (F4++jn 44 (ex.map utx)):=rfl;rw[e];generalize v0 (z,st,du,rc,r,da,ex,())=V at q0;generalize durT du.toNat=W at q1;have t2:totF [F0++V,F1++W]≤109:=by simp only[totF,nN2,qP2,List.sum_cons,List.sum_nil];omega
 have l2:[F0++V,F1++W].length=2:=rfl;rw[cM2,cM2,cM2,qJ,qJ,qJ];omega
theorem jQ1 (m:Mt) (hs:iF m) (hM:mayM m):jC.f m=if 4096<(rD (yB m)).length then some ([],3,())else some (I (rD (yB m)),0,()):=by have hl:=xR m hs hM;rw[aW1 m hs hM,(yM1 (yB m) (by omega) (by omega))];unfold rK1;rw[if_pos (pY m hs hM)];split <;> rfl
theorem cB1 (m:Mt) (hs:iF m):(mayM m∧(rD (yB m)).length≤4096∧jC.f m=some (I (rD (yB m)),0,()))∨(∃e:Int,jC.f m=some ([],e,())∧(e=1 ∧ ¬mayM m∨e=3∧mayM m)):=by
 by_cases h:mayM m
 ·have hp:=jQ1 m hs h;by_cases c:4096<(rD (yB m)).length
  ·rw[if_pos c]at hp;exact .inr ⟨3,hp,.inr ⟨rfl,h⟩⟩
  ·rw[if_neg c]at hp;exact .inl ⟨h,by omega,hp⟩
 ·exact .inr ⟨1,xG1 m hs h,.inl ⟨rfl,h⟩⟩
set_option maxRecDepth 1000000
abbrev r0 :Int×Int×Int×Int×Int×Bool×List Int×List Int×List Int×List Int×List (Int×Int×Unit)×List Int×List Int×List Int×List Int×Unit:=(3,1,2,0,0,false,[],[],[],[],[],[],[],[],[],())
theorem pL2 :gB.f ⟨#[50,48,50,54,48,51,48,49,84,48,48,48,48,48,48]⟩=some (1772323200,0,()):=eD (E:=E) (f:=40) rfl (D:=c40) (c:=b40) (by kernel_rfl) (by kernel_rfl) _ 100 (by kernel_rfl)
theorem ex_a :gB.f ⟨#[50,48,50,54,48,49,48,53,84,48,56,48,48,48,48]⟩=some (1767600000,0,()):=eD (E:=E) (f:=40) rfl (D:=c40) (c:=b40) (by kernel_rfl) (by kernel_rfl) _ 100 (by kernel_rfl)
theorem ex_b :gB.f ⟨#[50,48,50,54,48,49,49,50,84,48,56,48,48,48,48]⟩=some (1768204800,0,()):=eD (E:=E) (f:=40) rfl (D:=c40) (c:=b40) (by kernel_rfl) (by kernel_rfl) _ 100 (by kernel_rfl)
theorem qK2 :lW.f (3600,[],[],0,()) 1767603600=some (1767600000,()):=eD (E:=E) (f:=24) rfl (D:=c24) (c:=b24) (by kernel_rfl) (by kernel_rfl) _ 100 (by kernel_rfl)
theorem dK2 :lW.f (3600,[],[],0,()) 1768208400=some (1768204800,()):=eD (E:=E) (f:=24) rfl (D:=c24) (c:=b24) (by kernel_rfl) (by kernel_rfl) _ 100 (by kernel_rfl)
theorem ex_z :dD1.f (3600,[],[],0,())=some (true,()):=eD (E:=E) (f:=56) rfl (D:=c56) (c:=b56) (by kernel_rfl) (by kernel_rfl) _ 100 (by kernel_rfl)
theorem ex_m :yD.f (0,1767603600,3600,true,r0,[],[],())=some (true,()):=eD (E:=E) (f:=27) rfl (D:=c27) (c:=b27) (by kernel_rfl) (by kernel_rfl) _ 100 (by kernel_rfl)
set_option maxRecDepth 1000000
abbrev exA :List UInt8:=[48,58,50,48,50,54,48,49,48,53,84,48,57,48,48,48,48]
abbrev exB :List UInt8:=[80,84,49,72]
abbrev exR :List UInt8:=[70,82,69,81,61,87,69,69,75,76,89,59,67,79,85,78,84,61,50]
abbrev exT :List UInt8:=(F0++exA)++13::10::((F1++exB)++13::10::((F2++exR)++[13,10]))
theorem fZ1 :tD.f ⟨#[48,58,50,48,50,54,48,49,48,53,84,48,57,48,48,48,48]⟩=some (0,1767603600,true,()):=eD (E:=E) (f:=146) rfl (D:=c146) (c:=b146) (by kernel_rfl) (by kernel_rfl) _ 100 (by kernel_rfl)
theorem cI2 :gA.f ⟨#[80,84,49,72]⟩=some (3600,0,()):=eD (E:=E) (f:=147) rfl (D:=c147) (c:=b147) (by kernel_rfl) (by kernel_rfl) _ 100 (by kernel_rfl)
theorem sG2 :zA.f ⟨#[70,82,69,81,61,87,69,69,75,76,89,59,67,79,85,78,84,61,50]⟩=some (r0,0,0,()):=eD (E:=E) (f:=148) rfl (D:=c148) (c:=b148) (by kernel_rfl) (by kernel_rfl) _ 100 (by kernel_rfl)
theorem wY1 :mC.f (I exT)=some ([F0++exA,F1++exB,F2++exR].map mkS,0,0,()):=by
 have hg:∀i,i<exT.length→bad exT i=false:=by decide
 have hl:exT.length≤4096:=by decide
 have:=iL hl hg;have e:lJ [] (uE exT)=[F0++exA,F1++exB,F2++exR]:=by decide
 rw[e]at this;exact this
theorem ex_p :kA.f [68,84,83,84,65,82,84,59,84,90,73,68,61,48,58,50,48,50,54,48,49,48,53,84,48,57,48,48,48,48,13,10,68,85,82,65,84,73,79,78,58,80,84,49,72,13,10,82,82,85,76,69,58,70,82,69,81,61,87,69,69,75,76,89,59,67,79,85,78,84,61,50,13,10]=some ((0,1767603600,3600,true,r0,[],[],()),0,0,()):=by
 have hs:mC.f [68,84,83,84,65,82,84,59,84,90,73,68,61,48,58,50,48,50,54,48,49,48,53,84,48,57,48,48,48,48,13,10,68,85,82,65,84,73,79,78,58,80,84,49,72,13,10,82,82,85,76,69,58,70,82,69,81,61,87,69,69,75,76,89,59,67,79,85,78,84,61,50,13,10]=some ([F0++exA,F1++exB,F2++exR].map mkS,0,0,()):=wY1;obtain⟨X,hX⟩:∃X,X=[F0++exA,F1++exB,F2++exR].map mkS:=⟨_,rfl⟩
 have hl:X.length=3:=by rw[hX];rfl
 have g0:X.getD 0 ByteArray.empty=mkS (Fr 0++exA):=by rw[hX];rfl
 have g1:X.getD 1 ByteArray.empty=mkS (Fr 1++exB):=by rw[hX];rfl
 have g2:X.getD 2 ByteArray.empty=mkS (Fr 2++exR):=by rw[hX];rfl
 have r1:oC.f zM 0 (mkS exA)=some (true,(0,1767603600,0,false,zR,[],[],()),()):=by rw[oC.f_eq];simp(disch:=omega)only[ss,show tD.f (mkS exA)=_ from fZ1]
 have r2:oC.f (0,1767603600,0,false,zR,[],[],()) ((1:Nat):Int) (mkS exB)=some (true,(0,1767603600,3600,false,zR,[],[],()),()):=by rw[oC.f_eq];simp(disch:=omega)only[ss,show gA.f (mkS exB)=_ from cI2]
 have r3:oC.f (0,1767603600,3600,false,zR,[],[],()) ((2:Nat):Int) (mkS exR)=some (true,(0,1767603600,3600,true,r0,[],[],()),()):=by rw[oC.f_eq];simp(disch:=omega)only[ss,show zA.f (mkS exR)=_ from sG2]
 have hm:yD.f (0,1767603600,3600,true,r0,[],[],())=some (true,()):=ex_m;rw[kA.f_eq,hs,←hX];simp only[eM2,decide_true,oN2,cond_false];rw[wT X _ (by omega) g0,show pf F0 (Fr 0++exA)=true from pN 0 exA,cond_true,show(Fr 0++exA).drop F0.length=exA from vN2 (l₁:=F0),r1];simp only[eM2];show QA X ((1:Nat):Int) ((1:Nat):Int) _=_;rw[uP1 X _ 1 1 _ (by omega) g1,gB1 X _ 1 1 _ (by omega) (by omega) (pN 1 exB),vN2,r2];simp only[eM2];show QA X ((2:Nat):Int) ((2:Nat):Int) _=_;rw[uP1 X _ 2 2 _ (by omega) g2,gB1 X _ 2 2 _ (by omega) (by omega) (pN 2 exR),vN2,r3];simp only[eM2];show QA X ((3:Nat):Int) ((3:Nat):Int) _=_;have:=uG1 X 3 (0,1767603600,3600,true,r0,[],[],());rw[hl,if_neg (by omega),hm]at this;exact this
set_option maxRecDepth 1000000
abbrev exD :Int×Int×Int×Int×Int×Unit:=(20458,2026,1,5,0,())
abbrev exP :(Int×Int×Int×Int×Int×Bool×List Int×List Int×List Int×List Int×List (Int×Int×Unit)×List Int×List Int×List Int×List Int×Unit)×((Int×Int×Int×Int×Int×Bool×List Int×List Int×List Int×List Int×List (Int×Int×Unit)×List Int×List Int×List Int×List Int×Unit)×Int×(Int×Int×Int×Int×Int×Unit)×Int×Unit)×Int×List Int×List Int×List Int×Unit:=(r0,(r0,1767603600,exD,32400,()),1767603600,[9],[0],[0],())
theorem oD2 :jX.f r0 1767603600 1772496000=some (exP,true,()):=eD (E:=E) (f:=103) rfl (D:=c103) (c:=b103) (by kernel_rfl) (by kernel_rfl) _ 120 (by kernel_rfl)
theorem bL2 :zH.f (r0,1767603600,exD,32400,()) 1767603600=some (20458,20464,()):=eD (E:=E) (f:=274) rfl (D:=c274) (c:=b274) (by kernel_rfl) (by kernel_rfl) _ 60 (by kernel_rfl)
theorem wL2 :zH.f (r0,1767603600,exD,32400,()) 1768176000=some (20465,20471,()):=eD (E:=E) (f:=274) rfl (D:=c274) (c:=b274) (by kernel_rfl) (by kernel_rfl) _ 60 (by kernel_rfl)
theorem oK2 :iM.f exP 1767603600=some (true,()):=eD (E:=E) (f:=275) rfl (D:=c275) (c:=b275) (by kernel_rfl) (by kernel_rfl) _ 60 (by kernel_rfl)
theorem sL2 :iM.f exP 1768176000=some (true,()):=eD (E:=E) (f:=275) rfl (D:=c275) (c:=b275) (by kernel_rfl) (by kernel_rfl) _ 60 (by kernel_rfl)
theorem gK2 :iE.f exP 20458=some (true,()):=eD (E:=E) (f:=277) rfl (D:=c277) (c:=b277) (by kernel_rfl) (by kernel_rfl) _ 60 (by kernel_rfl)
theorem pK2 :iE.f exP 20459=some (false,()):=eD (E:=E) (f:=277) rfl (D:=c277) (c:=b277) (by kernel_rfl) (by kernel_rfl) _ 60 (by kernel_rfl)
theorem mK2 :iE.f exP 20460=some (false,()):=eD (E:=E) (f:=277) rfl (D:=c277) (c:=b277) (by kernel_rfl) (by kernel_rfl) _ 60 (by kernel_rfl)
theorem rK2 :iE.f exP 20461=some (false,()):=eD (E:=E) (f:=277) rfl (D:=c277) (c:=b277) (by kernel_rfl) (by kernel_rfl) _ 60 (by kernel_rfl)
theorem yK2 :iE.f exP 20462=some (false,()):=eD (E:=E) (f:=277) rfl (D:=c277) (c:=b277) (by kernel_rfl) (by kernel_rfl) _ 60 (by kernel_rfl)
theorem bM2 :iE.f exP 20463=some (false,()):=eD (E:=E) (f:=277) rfl (D:=c277) (c:=b277) (by kernel_rfl) (by kernel_rfl) _ 60 (by kernel_rfl)
theorem zJ2 :iE.f exP 20464=some (false,()):=eD (E:=E) (f:=277) rfl (D:=c277) (c:=b277) (by kernel_rfl) (by kernel_rfl) _ 60 (by kernel_rfl)
theorem mL2 :iE.f exP 20465=some (true,()):=eD (E:=E) (f:=277) rfl (D:=c277) (c:=b277) (by kernel_rfl) (by kernel_rfl) _ 60 (by kernel_rfl)
theorem eK2 :dL.f exP 20458 0 86400 100000 ()=some ([1767603600],(),()):=eD (E:=E) (f:=100000) rfl (D:=sD1) (c:=rT1) (by kernel_rfl) (by kernel_rfl) _ 60 (by kernel_rfl)
theorem aK2 :dL.f exP 20465 0 86400 100000 ()=some ([1768208400],(),()):=eD (E:=E) (f:=100000) rfl (D:=sD1) (c:=rT1) (by kernel_rfl) (by kernel_rfl) _ 60 (by kernel_rfl)
abbrev exC (l:List Int):(Int×Unit)×(Int×Unit)×((((List Int)×Unit)×(Int×Unit)×Unit)×Unit)×Unit:=((1767603600,()),(1772496000,()),(((l,()),(2,()),()),()),())
theorem fL2 :cH.f [1767603600] (1767603600,()) (1772496000,()) ((([],()),(2,()),()),())=some (true,(1767603600,()),(1772496000,()),((([1767603600],()),(2,()),()),()),()):=eD (E:=E) (f:=100004) rfl (D:=bD1) (c:=jW1) (by kernel_rfl) (by kernel_rfl) _ 60 (by kernel_rfl)
theorem oL2 :cH.f [1768208400] (1767603600,()) (1772496000,()) ((([1767603600],()),(2,()),()),())=some (false,(1767603600,()),(1772496000,()),((([1767603600,1768208400],()),(2,()),()),()),()):=eD (E:=E) (f:=100004) rfl (D:=bD1) (c:=jW1) (by kernel_rfl) (by kernel_rfl) _ 60 (by kernel_rfl)
theorem sI2 :yI.f 1767603600=some (20458,32400,()):=eD (E:=E) (f:=128) rfl (D:=c128) (c:=b128) (by kernel_rfl) (by kernel_rfl) _ 60 (by kernel_rfl)
theorem fJ2 :yI.f 1772496000=some (20515,0,()):=eD (E:=E) (f:=128) rfl (D:=c128) (c:=b128) (by kernel_rfl) (by kernel_rfl) _ 60 (by kernel_rfl)
theorem fQ1 (d:Int) (h0:20458≤d) (hd:d≤20464) (hf:iE.f exP d=some (false,())):vA.l1 20464 20515 d 1767603600 1772496000 2 [1767603600] exP=vA.l1 20464 20515 (d+1) 1767603600 1772496000 2 [1767603600] exP:=by
 have hm:mm false 20464 20515=20464:=rfl
 conv=>lhs;rw[vA.l1_eq]
 simp(disch:=omega)only[ss,hm,hf,vA.l2_eq]
theorem tK2 :vA.f exP 1767603600 20458 20464 1767603600 1772496000 (exC [])=some (true,exC [1767603600],()):=by
 have hm:mm false 20464 20515=20464:=rfl;have h0:vA.f exP 1767603600 20458 20464 1767603600 1772496000 (exC [])=vA.l1 20464 20515 20458 1767603600 1772496000 2 [] exP:=by rw[vA.f_eq,sI2,fJ2];rfl
 rw[h0,vA.l1_eq,hm,dp (by omega),cond_true,gK2];simp only[eM2,cond_true];rw[eK2];simp only[eM2];rw[fL2];simp only[eM2,oN2];rw[vA.l2_eq,cond_false,wr (by omega) (by omega)]
 rw[show(20458+1:Int)=20459 from rfl,fQ1 20459 (by omega) (by omega) pK2,show(20459+1:Int)=20460 from rfl,fQ1 20460 (by omega) (by omega) mK2,show(20460+1:Int)=20461 from rfl,fQ1 20461 (by omega) (by omega) rK2,
  show(20461+1:Int)=20462 from rfl,fQ1 20462 (by omega) (by omega) yK2,show(20462+1:Int)=20463 from rfl,fQ1 20463 (by omega) (by omega) bM2,show(20463+1:Int)=20464 from rfl,fQ1 20464 (by omega) (by omega) zJ2,show(20464+1:Int)=20465 from rfl]
 rw[vA.l1_eq,hm,dn (by omega),cond_false]
theorem kK2 :vA.f exP 1768176000 20465 20471 1767603600 1772496000 (exC [1767603600])=some (false,exC [1767603600,1768208400],()):=by
 have hm:mm false 20471 20515=20471:=rfl;have h0:vA.f exP 1768176000 20465 20471 1767603600 1772496000 (exC [1767603600])=vA.l1 20471 20515 20465 1767603600 1772496000 2 [1767603600] exP:=by rw[vA.f_eq,sI2,fJ2];rfl
 rw[h0,vA.l1_eq,hm,dp (by omega),cond_true,mL2];simp only[eM2,cond_true];rw[aK2];simp only[eM2];rw[oL2];simp only[eM2,gO2];rw[vA.l2_eq,cond_true]
theorem eH2 :jB.f exP 1767603600 1772496000 (exC [])=some (exC [1767603600,1768208400],()):=by rw[jB.f_eq,jB.l1_eq,dp (by omega),cond_true];rw[show zH.f exP.2.1 1767603600=_ from bL2];simp only[eM2];rw[oK2];simp only[eM2,cond_true];rw[tK2];simp only[eM2,oN2];rw[jB.l2_eq,cond_false,wr (x:=20464+1) (by omega) (by omega),wr (by omega) (by omega),show((20464+1)*86400:Int)=1768176000 from rfl,jB.l1_eq,dp (by omega),cond_true];rw[show zH.f exP.2.1 1768176000=_ from wL2];simp only[eM2];rw[sL2];simp only[eM2,cond_true];rw[kK2];simp only[eM2,gO2];rw[jB.l2_eq,cond_true]
theorem ex_l :kL.f r0 1767603600 1772496000 4096=some ([1767603600,1768208400],0,()):=by
 have hw:wD.f exP 1767603600 1772496000 (([],()),(2,()),())=some ((([1767603600,1768208400],()),(2,()),()),()):=by rw[wD.f_eq];dsimp only;rw[cond_false,show mm true 1767603600 1767603600=1767603600 from rfl,wD.l1_eq];dsimp only;rw[dp (by omega),cond_true,eH2];rfl
 have hf:jF.f exP r0 1767603600 1772496000 4097=some ([1767603600,1768208400],()):=by rw[jF.f_eq];dsimp only;rw[dp (by omega),cond_true,show mm false 4097 2=2 from rfl,jF.l1_eq,hw];rfl
 rw[kL.f_eq,oD2];simp only[eM2,oN2,cond_false];rw[dn (by omega),cond_false,dn (by omega),cond_false,wr (by omega) (by omega),show(4096+1:Int)=4097 from rfl,hf];simp(disch:=omega)only[ss,kM2,xM2]
abbrev Sp :=Int×Int×Unit
def nrm (l:List Sp):Prop:=l.Pairwise (fun a b=>a.2.1<b.1) ∧ ∀s∈l,s.1<s.2.1
def push (out:List Sp) (s:Sp):List Sp:=match out.getLast? with
 | none=>[s]
 | some p=>if s.1≤p.2.1 then out.dropLast++[(p.1,mm true p.2.1 s.2.1,())]else out++[s]
theorem xZ1 (s:Sp):push [] s=[s]:=rfl
theorem bI1 (o:List Sp) (p s:Sp):push (o++[p]) s=if s.1≤p.2.1 then o++[(p.1,mm true p.2.1 s.2.1,())]else o++[p]++[s]:=by simp[push]
theorem gZ1 (out:List Sp) (s:Sp):(push out s).length≤out.length+1:=by
 rcases zB1 out with rfl | ⟨o,p,rfl⟩
 ·simp[push]
 ·rw[bI1];split <;> simp
structure Put (out:List Sp) (v:Int):Prop where
 nrm:nrm out
 lo:∀s∈out,s.1≤v
theorem iG2 (l:List Sp) (h:l.length≤1000000) (hb:∀s∈l,(-1000000000000≤s.1∧s.1≤1000000000000) ∧ -1000000000000≤s.2.1∧s.2.1≤1000000000000):
  ∃r,vC.f l ()=some (r,(),())∧r.Perm l∧r.Pairwise (fun x y=>x.1≤y.1):=by
 have hall:l.all mP=true:=dN2.2 fun d hd=>by have:=hb d hd;unfold mP Go.GV.small;simp only[fM2,decide_eq_true_eq];omega
 obtain⟨r,hr⟩:∃r:List Sp,xN mP zf59 cf59 l=some r:=by unfold xN;rw[hall];exact⟨_,rfl⟩
 have hp:List.Perm (α:=Sp) r l:=zO mV1 hr;have hso0:List.Pairwise (α:=Sp) (fun a b=>¬cf59 b a<0) r:=kU mV1 hr;refine⟨r,?_,hp,hso0.imp fun {a b} h=>?_⟩
 ·rw[vC.f_sem];show(bif decide (List.length l≤wC)then(xN mP zf59 cf59 l).map (fun ys=>(ys,(),()))else none)=_;rw[dp (by simp only[wC];omega),cond_true,hr];rfl
 ·have h2:=zM1 b.1 a.1;have h3:decide (tY b.1 a.1<0)=false:=decide_eq_false h;rw[h3]at h2;have:=of_decide_eq_false h2.symm;omega
theorem nD2 (inn:List Sp) (hl:inn.length≤1000000):∀(k i:Nat) (out:List Sp),inn.length-i=k→i≤inn.length→out.length≤i →
  lE.l1 inn inn.length i out=some ((inn.drop i).foldl push out,()):=by
 have hlim:wC=17179869184:=rfl;intro k
 induction k with
 | zero=>
  intro i out hk hi ho;have e:i=inn.length:=by omega
  subst e;rw[lE.l1_eq];simp(disch:=omega)only[ss,wN2,List.foldl_nil]
 | succ k ih=>
  intro i out hk hi ho;have hlt:i<inn.length:=by omega
  have hs:∀s:Sp,(s.1,s.2.1,())=s:=fun s=>rfl
  rw[lE.l1_eq,nC (0,0,()) hlt,List.foldl_cons];have hpl:=gZ1 out (inn.getD i (0,0,()));rw[←ih (i+1) (push out (inn.getD i (0,0,()))) (by omega) (by omega) (by omega)];rcases zB1 out with rfl | ⟨o,p,rfl⟩
  ·rw[xZ1];simp(disch:=omega)only[ss,xM2,tM2,lE.l2_eq,gM2,lN2,hs,hlim];rfl
  ·rw[gN1]at ho;rw[bI1];simp(disch:=omega)only[ss,gN1,yN2,xN2,Int.add_sub_cancel,lE.l2_eq,gM2,hs,yZ,oB2,hlim];by_cases hc:(inn.getD i (0,0,())).1≤p.2.1
   ·simp(disch:=omega)only[ss,if_pos hc]
   ·simp(disch:=omega)only[ss,if_neg hc]
theorem bB2 (l:List Sp) (hl:l.length≤1000000):lE.f l=some (l.foldl push [],()):=by have:=nD2 l hl _ 0 [] rfl (iM2 _) (oM2 _);rw[bN2,tM2]at this;rw[lE.f_eq];exact this
theorem yA2 (a b:List Sp) (hab:a.length=b.length) (hl:a.length≤1000000):∀(k i:Nat),a.length-i=k→i≤a.length→yC.l1 a b (i:Int)=some (decide (a.drop i=b.drop i),()):=by
 intro k
 induction k with
 | zero=>
  intro i hk hi;have e1:a.drop i=[]:=wO2 (by omega);have e2:b.drop i=[]:=wO2 (by omega);rw[yC.l1_eq,e1,e2];simp(disch:=omega)only[ss]
 | succ k ih=>
  intro i hk hi;have h1:i<a.length:=by omega
  have h2:i<b.length:=by omega
  have iff2:(a.drop i=b.drop i)↔((a.getD i (0,0,())).1=(b.getD i (0,0,())).1∧(a.getD i (0,0,())).2.1=(b.getD i (0,0,())).2.1)∧a.drop (i+1)=b.drop (i+1):=by
   rw[nC ((0,0,()):Sp) h1,nC ((0,0,()):Sp) h2,List.cons.injEq];constructor
   ·rintro⟨q1,q2⟩;rw[q1];exact⟨⟨rfl,rfl⟩,q2⟩
   ·rintro⟨⟨q1,q2⟩,q3⟩;exact⟨Prod.ext q1 (Prod.ext q2 rfl),q3⟩
  rw[yC.l1_eq];by_cases c1:(a.getD i (0,0,())).1=(b.getD i (0,0,())).1
  ·by_cases c2:(a.getD i (0,0,())).2.1=(b.getD i (0,0,())).2.1
   ·simp(disch:=omega)only[ss,yC.l2_eq];refine(ih (i+1) (by omega) (by omega)).trans ?_;rw[decide_eq_decide.2 (iff2.trans ⟨fun q=>q.2,fun q=>⟨⟨c1,c2⟩,q⟩⟩)]
   ·simp(disch:=omega)only[ss,yC.l2_eq];rw[dn (fun q=>c2 (iff2.1 q).1.2)]
  ·simp(disch:=omega)only[ss,yC.l2_eq];rw[dn (fun q=>c1 (iff2.1 q).1.1)]
theorem rB2 (a b:List Sp) (hl:a.length≤1000000):yC.f a b=some (decide (a=b),()):=by
 rw[yC.f_eq];by_cases c:a.length=b.length
 ·have:=yA2 a b c hl _ 0 rfl (iM2 _);rw[tM2,bN2,bN2]at this;simp(disch:=omega)only[ss];exact this
 ·simp(disch:=omega)only[ss];rw[dn (fun q=>c (by rw[q]))]
def spF (U:Int→Int) (du hi:Int) (L:List Int):List Sp:=(L.filter fun t=>decide (U t<hi)).map fun t=>(U t,U t+du,())
theorem vG2 {U:Int→Int} {du hi:Int} {L:List Int} {s:Sp}:s∈spF U du hi L ↔ ∃t,t∈L∧U t<hi∧s=(U t,U t+du,()):=by
 unfold spF;rw[yM2];constructor
 ·rintro⟨t,h,rfl⟩;rw[List.mem_filter,decide_eq_true_eq]at h;exact⟨t,h.1,h.2,rfl⟩
 ·rintro⟨t,h1,h2,rfl⟩;exact⟨t,List.mem_filter.2 ⟨h1,dp h2⟩,rfl⟩
theorem jF2 (U:Int→Int) (du hi:Int) (L:List Int):(spF U du hi L).length≤L.length:=by unfold spF;rw[hM2];exact List.length_filter_le _ _
abbrev Zn :Type:=Int×List (Int×Int×Unit)×List (Int×Int×Int×Int×Int×Unit)×Int×Unit
abbrev zZ :Zn:=(0,[],[],0,())
def okU (Z:Zn) (U:Int→Int) (L:List Int):Prop:=∀t∈L,lW.f Z t=some (U t,()) ∧ -500000000000≤U t∧U t≤500000000000
section
variable (zs : List Zn) (hi : Int) (L : List Int) (U : Int → Int)
theorem wA2 (m:Int×Int×Int×Bool×(Int×Int×Int×Int×Int×Bool×List Int×List Int×List Int×List Int×List (Int×Int×Unit)×List Int×List Int×List Int×List Int×Unit)×List Int×List Int×Unit) (hz:0≤m.1∧m.1<(zs.length:Int)) (hl:L.length≤1000000) (hd:0≤m.2.2.1∧m.2.2.1≤2678400) (hU:okU (zs.getD m.1.toNat zZ) U L):∀(k i:Nat) (acc:List Sp),L.length-i=k→i≤L.length→acc.length≤i →
  kD.l2 zs hi L (L.length:Int) (i:Int) m acc=(vC.f (acc++spF U m.2.2.1 hi (L.drop i)) ()).bind fun t7=>(lE.f t7.1).bind fun t8=>some (t8.1,0,()):=by
 have hlim:wC=17179869184:=rfl;intro k
 induction k with
 | zero=>
  intro i acc hk hi' ha;have e:i=L.length:=by omega
  subst e;rw[kD.l2_eq,wN2];simp(disch:=omega)only[ss,show spF U m.2.2.1 hi []=[]from rfl,qM2]
 | succ k ih=>
  intro i acc hk hi' ha;have hlt:i<L.length:=by omega
  obtain⟨u1,u2,u3⟩:=hU (L.getD i 0) (sC 0 hlt)
  have hst:spF U m.2.2.1 hi (L.drop i)=(if U (L.getD i 0)<hi then [(U (L.getD i 0),U (L.getD i 0)+m.2.2.1,())]else [])++spF U m.2.2.1 hi (L.drop (i+1)):=by
   rw[nC 0 hlt];unfold spF;rw[List.filter_cons];by_cases c:U (L.getD i 0)<hi
   ·rw[dp c,if_pos rfl,if_pos c];rfl
   ·rw[dn c,if_neg (by simp),if_neg c];rfl
  rw[kD.l2_eq,hst];simp(disch:=omega)only[ss,u1];by_cases c:U (L.getD i 0)<hi
  ·simp(disch:=omega)only[ss,if_pos c,gM2,hlim];have:=ih (i+1) (acc++[(U (L.getD i 0),U (L.getD i 0)+m.2.2.1,())]) (by omega) (by omega) (by simp;omega);rw[rM2]at this;exact this
  ·simp(disch:=omega)only[ss,if_neg c,lN2];exact ih (i+1) acc (by omega) (by omega) (by omega)
theorem zU1 (m:Int×Int×Int×Bool×(Int×Int×Int×Int×Int×Bool×List Int×List Int×List Int×List Int×List (Int×Int×Unit)×List Int×List Int×List Int×List Int×Unit)×List Int×List Int×Unit) (hz:0≤m.1∧m.1<(zs.length:Int)) (hl:L.length≤1000000) (hd:0≤m.2.2.1∧m.2.2.1≤2678400) (hU:okU (zs.getD m.1.toNat zZ) U L):
  ∃r:List Sp,r.Perm (spF U m.2.2.1 hi L)∧r.Pairwise (fun x y=>x.1≤y.1)∧kD.l2 zs hi L (L.length:Int) 0 m []=some (r.foldl push [],0,()):=by
 have h:=wA2 zs hi L U m hz hl hd hU _ 0 [] rfl (iM2 _) (oM2 _);have hsl:=jF2 U m.2.2.1 hi L
 obtain⟨r,h1,h2,h3⟩:=iG2 (spF U m.2.2.1 hi L) (by omega) fun s hs=>by obtain⟨t,ht,_,rfl⟩:=vG2.1 hs;have:=(hU t ht).2;dsimp only;omega
 refine⟨r,h2,h3,?_⟩;have hrl:=h2.length_eq;rw[bN2,lN2,h1,tM2]at h;rw[h];simp only[eM2];rw[bB2 r (by omega)];rfl
end
def yP (l:List Int):Prop:=l.Pairwise (· < ·)
theorem uO {x:Int} {l:List Int}:yP (x::l)↔(∀y,y∈l→x<y)∧yP l:=pN2
theorem tH1 :∀{a b:List Int},yP a→yP b→(∀x,x∈a↔x∈b)→a=b
 | [],[],_,_,_=>rfl
 | [],y::b,_,_,h=>absurd ((h y).2 (mM2 ..)) (by simp)
 | x::a,[],_,_,h=>absurd ((h x).1 (mM2 ..)) (by simp)
 | x::a,y::b,ha,hb,h=>by
  have pa:=uO.1 ha;have pb:=uO.1 hb;have e:x=y:=by
   rcases jM2.1 ((h x).1 (mM2 ..))with e | e
   ·exact e
   ·rcases jM2.1 ((h y).2 (mM2 ..))with f | f
    ·exact f.symm
    ·have:=pb.1 x e;have:=pa.1 y f;omega
  subst e;have:a=b:=by
   refine tH1 pa.2 pb.2 fun z=>⟨fun hz=>?_,fun hz=>?_⟩
   ·rcases jM2.1 ((h z).1 (lM2 _ hz))with e | e
    ·have:=pa.1 z hz;omega
    ·exact e
   ·rcases jM2.1 ((h z).2 (lM2 _ hz))with e | e
    ·have:=pb.1 z hz;omega
    ·exact e
  rw[this]
theorem pR :∀{l:List Int},yP l → ∀{i j:Nat},i<j→j<l.length→l.getD i 0<l.getD j 0
 | [],_,_,_,_,h=>absurd h (by simp)
 | x::l,hr,0,0,h,_=>absurd h (by omega)
 | x::l,hr,0,j+1,_,h=>by
  have hj:j<l.length:=by simpa using h
  rw[List.getD_cons_zero,bQ2,dI 0 hj];exact(uO.1 hr).1 _ (mO2 hj)
 | x::l,hr,i+1,0,h,_=>absurd h (by omega)
 | x::l,hr,i+1,j+1,h,h2=>by rw[bQ2,bQ2];exact pR (uO.1 hr).2 (by omega) (by simpa using h2)
theorem qE1 {l:List Int} {x:Int} (h:x∈l):∃i,i<l.length∧l.getD i 0=x:=by obtain⟨i,hi,e⟩:=List.mem_iff_getElem.1 h;exact⟨i,hi,by rw[dI 0 hi,e]⟩
theorem dB2 {l:List Int} {i:Nat} (h:i<l.length):l.getD i 0∈l:=by rw[dI 0 h];exact mO2 h
theorem half {a b:Nat} (h:a+b<4611686018427387904):w6 (shrI .u64 (IntKind.u64.wrap (w6 ((a:Int)+(b:Int)))) 1)=(((a+b)/2:Nat):Int):=by
 rw[wr (x:=(a:Int)+(b:Int)) (by omega) (by omega),Go.IntWalk.u64_in ((a:Int)+(b:Int)) (by omega)];have e:shrI .u64 ((a:Int)+(b:Int)) 1=(((a+b)/2:Nat):Int):=by show Int.fdiv ((a:Int)+(b:Int)) (2 ^ (min (1:Int).toNat 64))=_;rw[show min (1:Int).toNat 64=1 from rfl,show(2:Int) ^ 1=2 from rfl,Int.fdiv_eq_ediv_of_nonneg _ (by decide)];omega
 rw[e,wr (by omega) (by omega)]
theorem zB2 (a b:Int):zJ.f a b=some (decide (a<b),()):=by rw[zJ.f_eq];simp(disch:=omega)only[ss,oI.f_eq,ne_eq,not_true_eq_false]
theorem rE2 (a:Int):zF.f a=some (false,()):=by rw[zF.f_eq];simp(disch:=omega)only[ss,ne_eq,not_true_eq_false]
theorem uK2 {l:List Int} (hl:l.length≤1000000) (hr:yP l) (t:Int):∀(k a b:Nat),b-a≤k→a≤b→b≤l.length→(∀j,j<a→l.getD j 0<t)→(∀j,b≤j→j<l.length→t≤l.getD j 0) →
  ∃i:Nat,cB.l1 l t (l.length:Int) a b=some ((i:Int),decide (i<l.length∧l.getD i 0=t),())∧i≤l.length∧(∀j,j<i→l.getD j 0<t)∧(∀j,i≤j→j<l.length→t≤l.getD j 0):=by
 have done:∀a:Nat,a≤l.length→(∀j,j<a→l.getD j 0<t)→(∀j,a≤j→j<l.length→t≤l.getD j 0) → ∃i:Nat,cB.l1 l t (l.length:Int) a a=some ((i:Int),decide (i<l.length∧l.getD i 0=t),())∧i≤l.length∧(∀j,j<i→l.getD j 0<t)∧(∀j,i≤j→j<l.length→t≤l.getD j 0):=by
  intro a ha h1 h3;rw[cB.l1_eq];refine⟨a,?_,ha,h1,h3⟩;by_cases hc:a<l.length
  ·by_cases he:l.getD a 0=t
   ·rw[dp (show a<l.length∧l.getD a 0=t from⟨hc,he⟩)];simp(disch:=omega)only[ss]
   ·rw[dn (show ¬(a<l.length∧l.getD a 0=t)from fun q=>he q.2)];simp(disch:=omega)only[ss,rE2]
  ·rw[dn (show ¬(a<l.length∧l.getD a 0=t)from fun q=>hc q.1)];simp(disch:=omega)only[ss]
 intro k
 induction k with
 | zero=>
  intro a b hk hab hb h1 h3;have e:a=b:=by omega
  subst e;exact done a hb h1 h3
 | succ k ih=>
  intro a b hk hab hb h1 h3;by_cases he:a=b
  ·subst he;exact done a hb h1 h3
  ·rw[cB.l1_eq,half (by omega)];have hm1:a≤(a+b)/2:=by omega
   have hm2:(a+b)/2<b:=by omega
   generalize (a+b)/2=m at hm1 hm2;simp(disch:=omega)only[ss,zB2];by_cases hm:l.getD m 0<t
   ·simp(disch:=omega)only[ss];refine ih (m+1) b (by omega) (by omega) hb (fun j hj=>?_) h3;by_cases hjm:j=m
    ·subst hjm;exact hm
    ·have:=pR hr (show j<m by omega) (by omega);omega
   ·simp(disch:=omega)only[ss];refine ih a m (by omega) hm1 (by omega) h1 fun j hj1 hj2=>?_
    by_cases hjm:j=m
    ·subst hjm;omega
    ·have:=pR hr (show m<j by omega) hj2;omega
theorem lI2 {l:List Int} (hl:l.length≤1000000) (hr:yP l) (t:Int):∃i:Nat,cB.f l t=some ((i:Int),decide (i<l.length∧l.getD i 0=t),())∧i≤l.length∧(t∈l→i<l.length∧l.getD i 0=t):=by
 obtain⟨i,h1,h2,h3,h4⟩:=uK2 hl hr t l.length 0 l.length (by omega) (iM2 _) (oM2 _) (fun j hj=>absurd hj (by omega)) (fun j h1 h2=>absurd h1 (by omega));rw[cB.f_eq];refine⟨i,h1,h2,fun hm=>?_⟩;obtain⟨j,hj,e⟩:=qE1 hm;have hij:i≤j:=by
  refine Classical.byContradiction fun c=>?_
  have:=h3 j (by omega);omega
 by_cases c:i=j
 ·subst c;exact⟨hj,e⟩
 ·have:=pR hr (show i<j by omega) hj;have:=h4 i (oM2 _) (by omega);omega
end Go.GV.YtidgapgbnlcjgaaGreatDoor
