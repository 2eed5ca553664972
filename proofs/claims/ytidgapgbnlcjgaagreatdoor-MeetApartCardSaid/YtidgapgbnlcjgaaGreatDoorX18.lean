/-
Part of the words that the laws of this seat are proved with: no statement of its own, no conditions.
-/
import Derived.Test.YtidgapgbnlcjgaaGreatDoorX17
set_option linter.unusedVariables false
set_option linter.unusedSimpArgs false
namespace Go.GV.YtidgapgbnlcjgaaGreatDoor
open Go.Proofs
def zR :Rl:=(0,0,0,0,0,false,[],[],[],[],[],[],[],[],[],())
theorem eqI2 (a b:List Int) (ha:a.length≤1000000):wA.f a b=some (decide (a=b),()):=by
 rw[wA.f_eq];by_cases hl:a.length=b.length
 ·have key:∀(k i:Nat),a.length-i=k→i≤a.length→wA.l1 a b a.length i=some (decide (a.drop i=b.drop i),()):=by
   intro k
   induction k with
   | zero=>
    intro i hk hia;have e1:a.drop i=[]:=eC2 (by omega);have e2:b.drop i=[]:=eC2 (by omega);rw[wA.l1_eq,e1,e2];simp(disch:=omega)only[ss]
   | succ k ih=>
    intro i hk hia;have h1:i<a.length:=by omega
    have h2:i<b.length:=by omega
    have:=ih (i+1) (by omega) (by omega);rw[wA.l1_eq,vB 0 h1,vB 0 h2];by_cases c:a.getD i 0=b.getD i 0
    ·have e:decide (a.getD i 0::a.drop (i+1)=b.getD i 0::b.drop (i+1))=decide (a.drop (i+1)=b.drop (i+1)):=decide_eq_decide.2 ⟨fun h=>(List.cons.inj h).2,fun h=>by rw[c,h]⟩;rw[e];simp(disch:=omega)only[ss];exact this
    ·have e:decide (a.getD i 0::a.drop (i+1)=b.getD i 0::b.drop (i+1))=false:=dn fun h=>c (List.cons.inj h).1
     rw[e];simp(disch:=omega)only[ss]
  have:=key _ 0 rfl (oZ1 _);rw[yZ1,pA2,pA2]at this;simp(disch:=omega)only[ss,this]
 ·rw[dn (show ¬a=b from fun h=>hl (by rw[h]))];simp(disch:=omega)only[ss]
theorem eqD2 (a b:List Dy) (ha:a.length≤1000000):zA.f a b=some (decide (a=b),()):=by
 rw[zA.f_eq];by_cases hl:a.length=b.length
 ·have key:∀(k i:Nat),a.length-i=k→i≤a.length→zA.l1 a b a.length i=some (decide (a.drop i=b.drop i),()):=by
   intro k
   induction k with
   | zero=>
    intro i hk hia;have e1:a.drop i=[]:=eC2 (by omega);have e2:b.drop i=[]:=eC2 (by omega);rw[zA.l1_eq,e1,e2];simp(disch:=omega)only[ss]
   | succ k ih=>
    intro i hk hia;have h1:i<a.length:=by omega
    have h2:i<b.length:=by omega
    have:=ih (i+1) (by omega) (by omega);rw[zA.l1_eq,vB ((0,0,()):Dy) h1,vB ((0,0,()):Dy) h2];generalize hx:a.getD i ((0,0,()):Dy)=x;generalize hy:b.getD i ((0,0,()):Dy)=y;have hx':a.getD i ((0,0,()):Int×Int×Unit)=x:=hx;have hy':b.getD i ((0,0,()):Int×Int×Unit)=y:=hy;obtain⟨x1,x2,⟨⟩⟩:=x;obtain⟨y1,y2,⟨⟩⟩:=y;by_cases c:x1=y1∧x2=y2
    ·obtain⟨rfl,rfl⟩:=c;have e:decide ((x1,x2,())::a.drop (i+1)=(x1,x2,())::b.drop (i+1))=decide (a.drop (i+1)=b.drop (i+1)):=decide_eq_decide.2 ⟨fun h=>(List.cons.inj h).2,fun h=>by rw[h]⟩;rw[e];simp(disch:=omega)only[ss,hx',hy'];exact this
    ·have e:decide ((x1,x2,())::a.drop (i+1)=(y1,y2,())::b.drop (i+1))=false:=dn fun h=>c (by have:=(List.cons.inj h).1;cases this;exact⟨rfl,rfl⟩)
     rw[e];have e2:(decide (x1=y1)&&decide (x2=y2))=false:=by
      by_cases c1:x1=y1
      ·rw[dn (show ¬x2=y2 from fun h=>c ⟨c1,h⟩),Bool.and_false]
      ·rw[dn c1,Bool.false_and]
     simp(disch:=omega)only[ss,hx',hy',e2]
  have:=key _ 0 rfl (oZ1 _);rw[yZ1,pA2,pA2]at this;simp(disch:=omega)only[ss,this]
 ·rw[dn (show ¬a=b from fun h=>hl (by rw[h]))];simp(disch:=omega)only[ss]
theorem yH1 (r q:Rl) (hr:zI r):nC (sC.f r q) (r=q):=by
 unfold zI fO at hr;obtain⟨f,iv,ct,un,wk,en,mo,we,yd,md,dy,ho,mi,se,po,⟨⟩⟩:=r;obtain⟨f',iv',ct',un',wk',en',mo',we',yd',md',dy',ho',mi',se',po',⟨⟩⟩:=q;dsimp only at hr;obtain⟨h1,h2,h3,h4,h5,h6,h7,h8,h9⟩:=hr;have no:∀{p:Prop},¬p→nC (some (false,())) p:=fun h=>⟨false,rfl,by simp[h]⟩
 rw[sC.f_eq];dsimp only;by_cases c:f=f'
 ·by_cases c1:iv=iv'
  ·by_cases c2:ct=ct'
   ·by_cases c3:un=un'
    ·by_cases c4:wk=wk'
     ·by_cases c5:en=en'
      ·subst c c1 c2 c3 c4 c5;simp(disch:=omega)only[ss,beq_self_eq_true];rw[sC.l1_eq,cond_false];dsimp only;rw[eqI2 mo mo' (by omega),eqI2 we we' (by omega),eqI2 yd yd' (by omega),eqI2 md md' (by omega),eqD2 dy dy' (by omega),eqI2 ho ho' (by omega),eqI2 mi mi' (by omega),eqI2 se se' (by omega),eqI2 po po' (by omega)];simp only[hZ1];by_cases d1:mo=mo'
       ·by_cases d2:we=we'
        ·by_cases d3:yd=yd'
         ·by_cases d4:md=md'
          ·by_cases d5:dy=dy'
           ·by_cases d6:ho=ho'
            ·by_cases d7:mi=mi'
             ·by_cases d8:se=se'
              ·subst d1 d2 d3 d4 d5 d6 d7 d8;simp only[decide_true,cond_true];refine⟨_,rfl,?_⟩;rw[decide_eq_true_iff];exact⟨fun h=>by rw[h],fun h=>by cases h;rfl⟩
              ·simp only[dp d1,dp d2,dp d3,dp d4,dp d5,dp d6,dp d7,dn d8,cond_true,cond_false];exact no fun h=>d8 (by cases h;rfl)
             ·simp only[dp d1,dp d2,dp d3,dp d4,dp d5,dp d6,dn d7,cond_true,cond_false];exact no fun h=>d7 (by cases h;rfl)
            ·simp only[dp d1,dp d2,dp d3,dp d4,dp d5,dn d6,cond_true,cond_false];exact no fun h=>d6 (by cases h;rfl)
           ·simp only[dp d1,dp d2,dp d3,dp d4,dn d5,cond_true,cond_false];exact no fun h=>d5 (by cases h;rfl)
          ·simp only[dp d1,dp d2,dp d3,dn d4,cond_true,cond_false];exact no fun h=>d4 (by cases h;rfl)
         ·simp only[dp d1,dp d2,dn d3,cond_true,cond_false];exact no fun h=>d3 (by cases h;rfl)
        ·simp only[dp d1,dn d2,cond_true,cond_false];exact no fun h=>d2 (by cases h;rfl)
       ·simp only[dn d1,cond_false];exact no fun h=>d1 (by cases h;rfl)
      ·have e:(en==en')=false:=by cases en <;> cases en' <;> first | rfl | exact absurd rfl c5
       simp(disch:=omega)only[ss,e,sC.l1_eq];exact no fun h=>c5 (by cases h;rfl)
     ·simp(disch:=omega)only[ss,sC.l1_eq];exact no fun h=>c4 (by cases h;rfl)
    ·simp(disch:=omega)only[ss,sC.l1_eq];exact no fun h=>c3 (by cases h;rfl)
   ·simp(disch:=omega)only[ss,sC.l1_eq];exact no fun h=>c2 (by cases h;rfl)
  ·simp(disch:=omega)only[ss,sC.l1_eq];exact no fun h=>c1 (by cases h;rfl)
 ·simp(disch:=omega)only[ss,sC.l1_eq];exact no fun h=>c (by cases h;rfl)
abbrev Mt :Type:=Int×Int×Int×Bool×Rl×List Int×List Int×Unit
def innP (t:Int):Prop:= -62104060800≤t∧t<253370764800
theorem vQ (y:Int) (h:1≤y∧y≤9999):eF.f y=some (fst_ y*86400,()):=by rw[eF.f_eq,bY,if_pos h];rfl
theorem oY1 :eF.f 2=some (-62104060800,()):=vQ 2 (by omega)
theorem gZ1 :eF.f 9999=some (253370764800,()):=vQ 9999 (by omega)
theorem hV1 :eF.f 3=some (-62072524800,()):=vQ 3 (by omega)
theorem pW1 :eF.f 9998=some (253339228800,()):=vQ 9998 (by omega)
theorem uV (t:Int):nC (sH.f t) (innP t):=by
 unfold innP;rw[sH.f_eq,oY1,gZ1];by_cases c:t ≥ -62104060800
 ·simp(disch:=omega)only[ss];exact⟨_,rfl,by rw[decide_eq_true_eq];omega⟩
 ·simp(disch:=omega)only[ss];exact⟨_,rfl,by simp;omega⟩
def okM (l:List Int) (j:Nat):Prop:=innP (l.getD j 0)∧adjI l j
def vT (l:List Int):Prop:=(∀j,j<l.length→okM l j)∧l.length≤64
theorem tQ1 (l:List Int) (hl:l.length≤1000000):∀(k i:Nat),l.length-i=k→i≤l.length →
  nC (oB.l1 l l (l.length:Int) (i:Int)) ((∀j,i≤j→j<l.length→okM l j)∧l.length≤64):=by
 intro k
 induction k with
 | zero=>
  intro i hk hil;rw[oB.l1_eq];simp(disch:=omega)only[ss];refine⟨_,rfl,?_⟩;rw[decide_eq_true_eq];exact⟨fun h=>⟨fun j h1 h2=>by omega,by omega⟩,fun h=>by omega⟩
 | succ k ih=>
  intro i hk hil;have hlt:i<l.length:=by omega
  have step:okM l i→nC (oB.l2 l l (l.length:Int) (i:Int) false) ((∀j,i≤j→j<l.length→okM l j)∧l.length≤64):=fun h=>by
   rw[oB.l2_eq];simp(disch:=omega)only[ss];refine(ih (i+1) (by omega) (by omega)).iff ⟨fun q=>⟨fun j h1 h2=>?_,q.2⟩,fun q=>⟨fun j h1 h2=>q.1 j (by omega) h2,q.2⟩⟩;by_cases e:j=i
   ·subst e;exact h
   ·exact q.1 j (by omega) h2
  have stop:¬okM l i→nC (oB.l2 l l (l.length:Int) (i:Int) true) ((∀j,i≤j→j<l.length→okM l j)∧l.length≤64):=fun h=>by rw[oB.l2_eq,cond_true];exact⟨false,rfl,by simp;intro q;exact absurd (q i (tZ1 _) hlt) h⟩
  obtain⟨b,hb,hi⟩:=uV (l.getD i 0);rw[oB.l1_eq];simp(disch:=omega)only[ss,hb]
  cases b with
  | false=> 
   rw[aA2,cond_true];exact stop fun q=>by have:=hi.2 q.1;cases this
  | true=>
   have hin:=hi.1 rfl;rw[mZ1,cond_false];by_cases h0:i=0
   ·simp(disch:=omega)only[ss];exact step ⟨hin,fun q=>by omega⟩
   ·simp(disch:=omega)only[ss];by_cases c:l.getD i 0≤l.getD (i-1) 0
    ·rw[dp c];exact stop fun q=>by have:=q.2 (by omega);omega
    ·rw[dn c];exact step ⟨hin,fun _=>by omega⟩
theorem fU (l:List Int) (hl:l.length≤1000000):nC (oB.f l) (vT l):=by have:=tQ1 l hl _ 0 rfl (oZ1 _);rw[yZ1]at this;rw[oB.f_eq];exact this.iff ⟨fun q=>⟨fun j hj=>q.1 j (oZ1 _) hj,q.2⟩,fun q=>⟨fun j _ hj=>q.1 j hj,q.2⟩⟩
def mayM (m:Mt):Prop:=0≤m.1∧m.1<16∧innP m.2.1∧1≤m.2.2.1∧m.2.2.1≤2678400∧vT m.2.2.2.2.2.1∧vT m.2.2.2.2.2.2.1 ∧
 (m.2.2.2.1=true→oA.f m.2.2.2.2.1=some (true,()))∧(m.2.2.2.1=false→m.2.2.2.2.1=zR)
def iB1 (m:Mt):Prop:=zI m.2.2.2.2.1∧m.2.2.2.2.2.1.length≤1000000∧m.2.2.2.2.2.2.1.length≤1000000
theorem fX1 (m:Mt):∃b,bE.f m=some (b,())∧(b=true→iB1 m):=by
 obtain⟨b,h1,h2⟩:=iO1 m.2.2.2.2.1;rw[bE.f_eq,h1]
 cases b with
 | false=>exact⟨false,rfl,fun h=>by cases h⟩
 | true=>
  simp(disch:=omega)only[ss];by_cases c:(m.2.2.2.2.2.1.length:Int)≤400
  ·rw[dp c];refine⟨_,rfl,fun h=>⟨h2 rfl,by omega,?_⟩⟩;rw[decide_eq_true_eq]at h;omega
  ·rw[dn c];exact⟨_,rfl,fun h=>by cases h⟩
theorem jV1 (m:Mt) (h:iB1 m):nC (cD.f m) (mayM m):=by
 obtain⟨z,st,du,rc,r,da,ex,⟨⟩⟩:=m;obtain⟨h1,h2,h3⟩:=h;dsimp only at h1 h2 h3
 have stop:¬mayM (z,st,du,rc,r,da,ex,())→nC (cD.l1 true (z,st,du,rc,r,da,ex,())) (mayM (z,st,du,rc,r,da,ex,())):=fun q=>by rw[cD.l1_eq,cond_true];exact⟨false,rfl,by simp[q]⟩
 obtain⟨b1,g1,k1⟩:=uV st;obtain⟨b2,g2,k2⟩:=fU da h2;obtain⟨b3,g3,k3⟩:=fU ex h3;unfold mayM at stop ⊢;dsimp only at stop ⊢;rw[cD.f_eq];dsimp only;by_cases c1:z<0
 ·rw[dp c1];exact stop fun q=>by omega
 rw[dn c1,cond_false];by_cases c2:z≥16
 ·rw[dp c2];exact stop fun q=>by omega
 rw[dn c2,cond_false,g1]
 cases b1 with
 | false=>exact stop fun q=>by have:=k1.2 q.2.2.1;cases this
 | true=>
 simp(disch:=omega)only[ss];by_cases c3:du<1
 ·rw[dp c3];exact stop fun q=>by omega
 rw[dn c3,cond_false];by_cases c4:du>2678400
 ·rw[dp c4];exact stop fun q=>by omega
 rw[dn c4,cond_false,g2]
 cases b2 with
 | false=>exact stop fun q=>by have:=k2.2 q.2.2.2.2.2.1;cases this
 | true=>
 simp(disch:=omega)only[ss,g3]
 cases b3 with
 | false=>exact stop fun q=>by have:=k3.2 q.2.2.2.2.2.2.1;cases this
 | true=>
 rw[mZ1,cD.l1_eq,cond_false];dsimp only;have base:0≤z∧z<16∧innP st∧1≤du∧du≤2678400∧vT da∧vT ex:=⟨by omega,by omega,k1.1 rfl,by omega,by omega,k2.1 rfl,k3.1 rfl⟩
 obtain⟨i1,i2,i3,i4,i5,i6,i7⟩:=base
 cases rc with
 | true=>
  obtain⟨b,hb⟩:=rQ r h1;rw[cond_true,hb];refine⟨b,rfl,fun e=>⟨i1,i2,i3,i4,i5,i6,i7,(fun _=>by rw[←e]),(fun e=>by cases e)⟩,fun q=>?_⟩;have:=q.2.2.2.2.2.2.2.1 rfl;exact congrArg Prod.fst (fA2 this)
 | false=>
  obtain⟨b,hb,hq⟩:=yH1 r zR h1;have hb:sC.f r (0,0,0,0,0,false,[],[],[],[],[],[],[],[],[],())=some (b,()):=hb;rw[cond_false,hb];exact⟨b,rfl,fun e=>⟨i1,i2,i3,i4,i5,i6,i7,(fun e=>by cases e),fun _=>hq.1 e⟩,fun q=>hq.2 (q.2.2.2.2.2.2.2.2 rfl)⟩
theorem nQ {l:List Int} (h:vT l):l.length≤64∧(∀j,j<l.length→adjI l j) ∧ ∀t∈l,innP t:=by refine⟨h.2,fun j hj=>(h.1 j hj).2,fun t ht=>?_⟩;obtain⟨j,hj,rfl⟩:=zB2 ht;have:=(h.1 j hj).1;rwa[kZ1,qZ1 hj]at this
theorem gH1 (m:Int):kI.f m=some (decide (1≤m∧m≤12),()):=by
 rw[kI.f_eq];by_cases c:1≤m
 ·by_cases c2:m≤12
  ·simp(disch:=omega)only[ss,ge_iff_le]
  ·simp(disch:=omega)only[ss,ge_iff_le]
 ·simp(disch:=omega)only[ss,ge_iff_le]
def nth1 (y m w:Int):Int:=1+(w-(fst_ y+cum y m+3))%7
theorem gD1 (y m w:Int):1≤nth1 y m w∧nth1 y m w≤7:=by unfold nth1;omega
theorem iN1 (y m:Int) (h1:1≤m) (h2:m≤12):28≤mlen y m∧mlen y m≤31:=by
 have hb:=eJ y m;refine⟨?_,hb.2.1⟩;unfold mlen;split
 ·split <;> omega
 ·split
  ·omega
  ·rw[if_pos ⟨h1,h2⟩];omega
theorem cR1 (y m k w:Int) (hy:1≤y∧y≤9999) (hm:1≤m∧m≤12) (hk:1≤k∧k≤5) (hw:0≤w∧w≤6):tB.f y m k w=tB.l2 y m k (nth1 y m w+7*(k-1)):=by
 have hN:=dL y m 1 hy.1 (by omega) hm.1 hm.2 (by omega) (by omega);have e1:fst_ y+1-1+cum y m=fst_ y+cum y m:=by omega
 rw[e1]at hN;have hb:=zL1 (fst_ y+cum y m);have hn:=gD1 y m w;have e:1+(w-wk (fst_ y+cum y m)+7)%7=nth1 y m w:=by unfold wk nth1;omega
 rw[tB.f_eq,kP,dp (show 1≤y∧y≤9999 from hy)];simp only[hZ1];rw[gH1,dp (show 1≤m∧m≤12 from hm)];simp only[hZ1];rw[pR,dp (show 0≤w∧w≤6 from hw)];rw[dn (show ¬k<1 by omega),dn (show ¬k>5 by omega)];simp only[hZ1,mZ1,cond_false];rw[tB.l1_eq,cond_false,hN];simp only[hZ1];rw[iG];simp(disch:=omega)only[ss,tmn (show(0:Int)≤w-wk (fst_ y+cum y m)+7 by omega),e]
def nthL (y m w:Int):Int:=if nth1 y m w+28>mlen y m then nth1 y m w+21 else nth1 y m w+28
theorem uY1 (y m w:Int) (hy:1≤y∧y≤9999) (hm:1≤m∧m≤12) (hw:0≤w∧w≤6):tB.f y m 5 w=some (nthL y m w,0,()):=by
 have hn:=gD1 y m w;have hl:=iN1 y m hm.1 hm.2;have hL:=cG y m (by omega);unfold nthL;rw[cR1 y m 5 w hy hm (by omega) hw,tB.l2_eq,show nth1 y m w+7*(5-1)=nth1 y m w+28 by omega];by_cases c:nth1 y m w+28>mlen y m
 ·rw[if_pos c];simp(disch:=omega)only[ss,hL,tB.l3_eq];rw[tB.l2_eq];have e:nth1 y m w+28-7=nth1 y m w+21:=by omega
  simp(disch:=omega)only[ss,hL,tB.l3_eq,e]
 ·rw[if_neg c];simp(disch:=omega)only[ss,hL,tB.l3_eq]
def dN (y m k w:Int):Int:=if k=5 then nthL y m w else nth1 y m w+7*(k-1)
theorem tS1 (y m k w:Int) (hy:1≤y∧y≤9999) (hm:1≤m∧m≤12) (hk:1≤k∧k≤5) (hw:0≤w∧w≤6):tB.f y m k w=some (dN y m k w,0,()):=by
 unfold dN;by_cases c:k=5
 ·subst c;rw[if_pos rfl];exact uY1 y m w hy hm hw
 ·rw[if_neg c,cR1 y m k w hy hm hk hw,tB.l2_eq];simp(disch:=omega)only[ss,tB.l3_eq]
theorem qL (y m k w:Int) (hm:1≤m∧m≤12) (hk:1≤k∧k≤5):1≤dN y m k w∧dN y m k w≤mlen y m:=by
 have h1:=gD1 y m w;have h2:=iN1 y m hm.1 hm.2;unfold dN nthL;split
 ·split <;> omega
 ·omega
def yAt (x:Yl) (y:Int):Int:=(fst_ y+dN y x.1 x.2.1 x.2.2.1-1+cum y x.1)*86400+x.2.2.2.1
def yrL (z:Zn) (y:Int):List Sp:=if z.2.2.1=[]∨y<z.2.2.2.1∨y>9999 then []else z.2.2.1.map fun x=>(yAt x y,x.2.2.2.2.1,())
theorem xL1 (y:Int) (hy:1≤y∧y≤9999) (l:List Yl) (hl:l.length≤1000) (hok:∀j,j<l.length→okY (l.getD j zYl)):∀(k i:Nat) (acc:List Sp),l.length-i=k→i≤l.length→acc.length≤i →
  xB.l2 y l (l.length:Int) (i:Int) acc=some (acc++(l.drop i).map fun x=>(yAt x y,x.2.2.2.2.1,()),()):=by
 have hlim:yC=17179869184:=rfl;intro k
 induction k with
 | zero=>
  intro i acc hk hi ha;have e:i=l.length:=by omega
  subst e;rw[xB.l2_eq,vA2];simp(disch:=omega)only[ss,List.map_nil,cA2]
 | succ k ih=>
  intro i acc hk hi ha;have hlt:i<l.length:=by omega
  have ho:=hok i hlt;rw[vB zYl hlt,kA2];have hn:=tS1 y (l.getD i zYl).1 (l.getD i zYl).2.1 (l.getD i zYl).2.2.1 hy (by unfold okY at ho;omega) (by unfold okY at ho;omega) (by unfold okY at ho;omega);have hv:=qL y (l.getD i zYl).1 (l.getD i zYl).2.1 (l.getD i zYl).2.2.1 (by unfold okY at ho;omega) (by unfold okY at ho;omega);have hmk:=jI1 y (l.getD i zYl).1 (dN y (l.getD i zYl).1 (l.getD i zYl).2.1 (l.getD i zYl).2.2.1);rw[if_pos (fC.2 ⟨hy.1,hy.2,hv.1,hv.2⟩)]at hmk;have f1:=wS y (by omega) (by omega);have f2:=mK y (l.getD i zYl).1;have f3:=eJ y (l.getD i zYl).1;have hw:w6 ((fst_ y+dN y (l.getD i zYl).1 (l.getD i zYl).2.1 (l.getD i zYl).2.2.1-1+cum y (l.getD i zYl).1)*86400+(l.getD i zYl).2.2.2.1)=yAt (l.getD i zYl) y:=by unfold yAt;unfold okY at ho;exact wr (by omega) (by omega)
  rw[xB.l2_eq];simp(disch:=omega)only[ss,hn,hmk,hw,sA2,hlim];refine(ih (i+1) (acc++[(yAt (l.getD i zYl) y,(l.getD i zYl).2.2.2.2.1,())]) (by omega) (by omega) (by simp;omega)).trans ?_;rw[gA2];rfl
theorem fK (z:Zn) (hz:rH z) (y:Int):xB.f z y=some (yrL z y,()):=by
 obtain⟨base,sh,ys,kF,⟨⟩⟩:=z;obtain⟨h1,h2,h3⟩:=hz;dsimp only at h1 h2 h3;have l1t:xB.l1 y true (base,sh,ys,kF,())=some ([],()):=by rw[xB.l1_eq,cond_true]
 unfold yrL;rw[xB.f_eq];dsimp only;by_cases c0:(ys.length:Int)=0
 ·have e:ys=[]:=xZ1 (by omega);rw[dp c0,cond_true,l1t,if_pos (.inl e)]
 ·rw[dn c0,cond_false];have hne:ys≠[]:=fun e=>c0 (by rw[e];rfl)
  by_cases c1:y<kF
  ·rw[dp c1,cond_true,l1t,if_pos (.inr (.inl c1))]
  ·rw[dn c1,cond_false];by_cases c2:y>9999
   ·rw[dp c2,l1t,if_pos (.inr (.inr c2))]
   ·rw[dn c2,xB.l1_eq,cond_false,if_neg (by rintro(q | q | q);exact hne q;exact c1 q;exact c2 q)];rcases h3 with⟨q,_⟩ | ⟨q1,q2,q3,q4,_⟩
    ·exact absurd q hne
    ·have:=xL1 y (by omega) ys (by omega) q2.1 _ 0 [] rfl (oZ1 _) (tZ1 _);rw[pA2,lA2,yZ1]at this;exact this
def nrL (z:Zn) (Y:Int):List Sp:=z.2.1++(if Y<z.2.2.2.1 then yrL z z.2.2.2.1 else yrL z (Y-1)++(yrL z Y++yrL z (Y+1)))
theorem rK (z:Zn) (hz:rH z) (y:Int):(yrL z y).length≤2:=by
 unfold yrL;split
 ·simp
 ·rw[wA2];rcases hz.2.2 with⟨q,_⟩ | ⟨q,_⟩
  ·rw[q];simp
  ·omega
theorem gO1 (l:List Sp) (h:l.length≤1000000):eC.f l=some (l,()):=by rw[eC.f_sem];show(bif decide (List.length l≤yC)then some (l,())else none)=_;rw[dp (by simp only[yC];omega),cond_true]
theorem jK1 (z:Zn) (hz:rH z) (u:Int) (hu:inT u):∃Y m d,uG (u/86400) Y m d∧eE.f z u=some (nrL z Y,()):=by
 have hlim:yC=17179869184:=rfl;have hd:=sK hu;obtain⟨Y,m,d,h1,h2,_⟩:=mJ (u/86400) hd.1 hd.2;obtain⟨v1,v2,v3,v4⟩:=fC.1 h1.1;refine⟨Y,m,d,h1,?_⟩;have hD:=(xF u (by omega) (by omega)).1;have hl:=hz.2.1.2;rw[eE.f_eq,hD];simp only[hZ1];rw[h2];simp only[hZ1];rw[gO1 _ (by omega)];simp only[hZ1];unfold nrL;have y1:=rK z hz z.2.2.2.1;have y2:=rK z hz (Y-1);have y3:=rK z hz Y;have y4:=rK z hz (Y+1);by_cases c:Y<z.2.2.2.1
 ·rw[dp c,if_pos c,cond_true,fK z hz];simp(disch:=omega)only[ss,hlim]
 ·rw[dn c,if_neg c,cond_false,wr (by omega) (by omega),eE.l1_eq,fK z hz];simp(disch:=omega)only[ss,hlim,show Y-1+1=Y by omega];rw[eE.l1_eq,fK z hz];simp(disch:=omega)only[ss,hlim,lZ1];rw[eE.l1_eq,fK z hz];simp(disch:=omega)only[ss,hlim,lZ1];rw[eE.l1_eq];simp(disch:=omega)only[ss,gA2]
theorem mI1 (z:Zn) (hz:rH z) (Y:Int):∀s∈nrL z Y,offP s.2.1:=by
 have hy:∀y,∀s∈yrL z y,offP s.2.1:=by
  intro y s hs;unfold yrL at hs;split at hs
  ·cases hs
  ·obtain⟨x,hx,rfl⟩:=bA2.1 hs;rcases hz.2.2 with⟨q,_⟩ | ⟨_,q,_⟩
   ·rw[q]at hx;cases hx
   ·obtain⟨j,hj,rfl⟩:=zB2 hx;have:=(q.1 j hj).2.2.2.2.2.2.2.2;rwa[kZ1,qZ1 hj]at this
 intro s hs;unfold nrL at hs;rcases sZ1.1 hs with hs | hs
 ·obtain⟨j,hj,rfl⟩:=zB2 hs;have:=(hz.2.1.1 j hj).2.1;rwa[kZ1,qZ1 hj]at this
 ·split at hs
  ·exact hy _ s hs
  ·rcases sZ1.1 hs with hs | hs
   ·exact hy _ s hs
   ·rcases sZ1.1 hs with hs | hs
    ·exact hy _ s hs
    ·exact hy _ s hs
theorem bU1 (z:Zn) (hz:rH z) (Y:Int):(nrL z Y).length≤100:=by
 have y1:=rK z hz z.2.2.2.1;have y2:=rK z hz (Y-1);have y3:=rK z hz Y;have y4:=rK z hz (Y+1);have hl:=hz.2.1.2;unfold nrL;split
 ·rw[lZ1];omega
 ·rw[lZ1,lZ1,lZ1];omega
def befL (u:Int) (p:Bool×Sp) (s:Sp):Bool×Sp:=if s.1≤u then(true,s)else p
theorem kJ1 (u:Int) (l:List Sp) (hl:l.length≤1000000) (y0:Sp):∀(k i:Nat) (b:Bool) (y:Sp),l.length-i=k→i≤l.length →
  pD.l1 u b l (l.length:Int) (i:Int) y0 y=some (((l.drop i).foldl (befL u) (b,y)).2,((l.drop i).foldl (befL u) (b,y)).1,()):=by
 intro k
 induction k with
 | zero=>
  intro i b y hk hi;have e:i=l.length:=by omega
  subst e;rw[pD.l1_eq,vA2];simp(disch:=omega)only[ss,List.foldl_nil]
 | succ k ih=>
  intro i b y hk hi;have hlt:i<l.length:=by omega
  rw[pD.l1_eq,vB zSh hlt,vB2];by_cases c:(l.getD i zSh).1≤u
  ·have e:befL u (b,y) (l.getD i zSh)=(true,l.getD i zSh):=by unfold befL;rw[if_pos c]
   rw[e];simp(disch:=omega)only[ss];exact ih (i+1) true _ (by omega) (by omega)
  ·have e:befL u (b,y) (l.getD i zSh)=(b,y):=by unfold befL;rw[if_neg c]
   rw[e];simp(disch:=omega)only[ss];exact ih (i+1) b y (by omega) (by omega)
theorem oQ1 (u:Int) (l:List Sp) (hl:l.length≤1000000) (y0:Sp):∀(k i:Nat),l.length-i=k→i≤l.length →
  mD.l1 u l (l.length:Int) (i:Int) y0=some (match(l.drop i).find? (fun s=>decide (s.1>u))with | some s=>(s,true,()) | none=>(zSh,false,())):=by
 intro k
 induction k with
 | zero=>
  intro i hk hi;have e:i=l.length:=by omega
  subst e;rw[mD.l1_eq,vA2];simp(disch:=omega)only[ss,List.find?_nil]
 | succ k ih=>
  intro i hk hi;have hlt:i<l.length:=by omega
  rw[mD.l1_eq,vB zSh hlt,List.find?_cons];by_cases c:(l.getD i zSh).1>u
  ·rw[dp c];simp(disch:=omega)only[ss]
  ·rw[dn c];simp(disch:=omega)only[ss];exact ih (i+1) (by omega) (by omega)
def offV (z:Zn) (Y u:Int):Int:=if((nrL z Y).foldl (befL u) (false,zSh)).1=true then((nrL z Y).foldl (befL u) (false,zSh)).2.2.1 else z.1
def aftV (z:Zn) (Y u:Int):Option Sp:=(nrL z Y).find? (fun s=>decide (s.1>u))
theorem uX (z:Zn) (hM:gC.f z=some (true,())) (u:Int) (hu:inT u):fI.f z u=some (true,()):=by have hm:=(qN u).1;rw[fI.f_eq,hm,dp hu];simp only[hZ1,cond_true];rw[hM];rfl
section
variable (z : Zn) (hz : rH z) (hM : gC.f z = some (true, ()))
include hz hM
theorem oV (u:Int) (hu:inT u):∃Y m d,uG (u/86400) Y m d∧lI.f z u=some (offV z Y u,())∧mD.f z u=some (match aftV z Y u with | some s=>(s,true,()) | none=>(zSh,false,())):=by
 obtain⟨Y,m,d,h1,h2⟩:=jK1 z hz u hu;have hl:=bU1 z hz Y;refine⟨Y,m,d,h1,?_,?_⟩
 ·have hb:=kJ1 u (nrL z Y) (by omega) zSh _ 0 false zSh rfl (oZ1 _);rw[pA2,yZ1]at hb;rw[lI.f_eq,uX z hM u hu];simp only[hZ1,mZ1,cond_false];rw[pD.f_eq,uX z hM u hu];simp only[hZ1,mZ1,cond_false];rw[h2];simp only[hZ1];rw[hb];simp only[hZ1];unfold offV
  cases((nrL z Y).foldl (befL u) (false,zSh)).1 with
  | true=>rw[if_pos rfl];rfl
  | false=>rw[if_neg (by simp)];rfl
 ·have ha:=oQ1 u (nrL z Y) (by omega) zSh _ 0 rfl (oZ1 _);rw[pA2,yZ1]at ha;rw[mD.f_eq,uX z hM u hu];simp only[hZ1,mZ1,cond_false];rw[h2];simp only[hZ1];exact ha
end
theorem wB1 (u:Int):∀(l:List Sp) (b:Bool) (y:Sp),(∀s∈l,offP s.2.1)→(b=true→offP y.2.1)→(l.foldl (befL u) (b,y)).1=true→offP (l.foldl (befL u) (b,y)).2.2.1
 | [],b,y,_,h,q=>h q
 | s::l,b,y,h1,h2,q=>by
  rw[vB2]at q ⊢;have hs:=h1 s (by simp);by_cases c:s.1≤u
  ·rw[show befL u (b,y) s=(true,s)from if_pos c]at q ⊢;exact wB1 u l true s (fun x hx=>h1 x (jZ1 _ hx)) (fun _=>hs) q
  ·rw[show befL u (b,y) s=(b,y)from if_neg c]at q ⊢;exact wB1 u l b y (fun x hx=>h1 x (jZ1 _ hx)) h2 q
theorem qC1 (z:Zn) (hz:rH z) (Y u:Int):offP (offV z Y u):=by
 unfold offV;split
 ·rename_i h;exact wB1 u _ false zSh (mI1 z hz Y) (fun q=>by cases q) h
 ·exact hz.1
def utcV (o:Int) (a:Option Sp) (t:Int):Int:=match a with
 | none=>t-o
 | some s=>if t-o<s.1 then t-o else if t-s.2.1≥s.1 then t-s.2.1 else t-o
theorem fC1 (z:Zn) (hz:rH z) (hM:gC.f z=some (true,())) (t:Int) (ht: -62104060800≤t∧t<253370764800):
  ∃Y m d,uG ((t-64800)/86400) Y m d∧tC.f z t=some (utcV (offV z Y (t-64800)) (aftV z Y (t-64800)) t,())∧t-64800≤utcV (offV z Y (t-64800)) (aftV z Y (t-64800)) t∧utcV (offV z Y (t-64800)) (aftV z Y (t-64800)) t≤t+64800:=by
 obtain⟨Y,m,d,h1,h2,h3⟩:=oV z hz hM (t-64800) ⟨by omega,by omega⟩;have hb:=qC1 z hz Y (t-64800);have hw:xH.f t=some (true,()):=by rw[xH.f_eq,bY,bY,if_pos (by omega),if_pos (by omega)];simp only[hZ1];rw[show fst_ 2*86400 = -62104060800 by decide,show fst_ 9999*86400=253370764800 by decide];simp(disch:=omega)only[ss,ge_iff_le]
 refine⟨Y,m,d,h1,?_⟩;have hx:w6 (t-64800)=t-64800:=wr (by omega) (by omega);rw[tC.f_eq,hw];simp only[hZ1,mZ1,cond_false];rw[hM];simp only[hZ1,mZ1];rw[tC.l1_eq,cond_false,hx,h2];simp only[hZ1];rw[h3];generalize offV z Y (t-64800)=o at hb;have hao:∀s,aftV z Y (t-64800)=some s→offP s.2.1:=fun s hs=>mI1 z hz Y s (List.mem_of_find?_eq_some hs)
 generalize aftV z Y (t-64800)=a at hao;unfold offP at hb
 cases a with
 | none=>
  simp only[hZ1,aA2,cond_true];rw[tC.l2_eq,cond_true,wr (by omega) (by omega)];unfold utcV;dsimp only;exact⟨rfl,by omega,by omega⟩
 | some s=>
  have hs:=hao s rfl;unfold offP at hs;simp only[hZ1,mZ1,cond_false];rw[tC.l2_eq,wr (x:=t-o) (by omega) (by omega),wr (x:=t-s.2.1) (by omega) (by omega)];unfold utcV;dsimp only;by_cases c1:t-o<s.1
  ·rw[dp c1,cond_true,if_pos c1];exact⟨rfl,by omega,by omega⟩
  ·rw[dn c1,cond_false,if_neg c1];by_cases c2:t-s.2.1≥s.1
   ·rw[dp c2,cond_true,if_pos c2];exact⟨rfl,by omega,by omega⟩
   ·rw[dn c2,cond_false,if_neg c2];exact⟨rfl,by omega,by omega⟩
set_option maxRecDepth 1000000
abbrev r0 :Int×Int×Int×Int×Int×Bool×List Int×List Int×List Int×List Int×List (Int×Int×Unit)×List Int×List Int×List Int×List Int×Unit:=(3,1,2,0,0,false,[],[],[],[],[],[],[],[],[],())
theorem pX1 :dH.f ⟨#[50,48,50,54,48,51,48,49,84,48,48,48,48,48,48]⟩=some (1772323200,0,()):=bC (E:=E) (f:=40) rfl (D:=c40) (c:=b40) (by kernel_rfl) (by kernel_rfl) _ 100 (by kernel_rfl)
theorem ex_a :dH.f ⟨#[50,48,50,54,48,49,48,53,84,48,56,48,48,48,48]⟩=some (1767600000,0,()):=bC (E:=E) (f:=40) rfl (D:=c40) (c:=b40) (by kernel_rfl) (by kernel_rfl) _ 100 (by kernel_rfl)
theorem ex_b :dH.f ⟨#[50,48,50,54,48,49,49,50,84,48,56,48,48,48,48]⟩=some (1768204800,0,()):=bC (E:=E) (f:=40) rfl (D:=c40) (c:=b40) (by kernel_rfl) (by kernel_rfl) _ 100 (by kernel_rfl)
theorem qX1 :tC.f (3600,[],[],0,()) 1767603600=some (1767600000,()):=bC (E:=E) (f:=24) rfl (D:=c24) (c:=b24) (by kernel_rfl) (by kernel_rfl) _ 100 (by kernel_rfl)
theorem jX1 :tC.f (3600,[],[],0,()) 1768208400=some (1768204800,()):=bC (E:=E) (f:=24) rfl (D:=c24) (c:=b24) (by kernel_rfl) (by kernel_rfl) _ 100 (by kernel_rfl)
theorem ex_z :gC.f (3600,[],[],0,())=some (true,()):=bC (E:=E) (f:=56) rfl (D:=c56) (c:=b56) (by kernel_rfl) (by kernel_rfl) _ 100 (by kernel_rfl)
theorem ex_m :cD.f (0,1767603600,3600,true,r0,[],[],())=some (true,()):=bC (E:=E) (f:=27) rfl (D:=c27) (c:=b27) (by kernel_rfl) (by kernel_rfl) _ 100 (by kernel_rfl)
theorem szS (l:List UInt8):(mkS l).size=l.length:=by rw[qR1,B_mk]
def F0 :List UInt8:=[68,84,83,84,65,82,84,59,84,90,73,68,61]
def F1 :List UInt8:=[68,85,82,65,84,73,79,78,58]
def F2 :List UInt8:=[82,82,85,76,69,58]
def F3 :List UInt8:=[82,68,65,84,69,58]
def F4 :List UInt8:=[69,88,68,65,84,69,58]
theorem fr0 :qC.f 0=some (mkS F0,()):=by rw[qC.f_eq];rfl
theorem fr1 :qC.f 1=some (mkS F1,()):=by rw[qC.f_eq];rfl
theorem fr2 :qC.f 2=some (mkS F2,()):=by rw[qC.f_eq];rfl
theorem fr3 :qC.f 3=some (mkS F3,()):=by rw[qC.f_eq];rfl
theorem fr4 :qC.f 4=some (mkS F4,()):=by rw[qC.f_eq];rfl
def Fr :Nat→List UInt8
 | 0=>F0
 | 1=>F1
 | 2=>F2
 | 3=>F3
 | _=>F4
theorem fr_k (k:Nat) (hk:k<5):qC.f (k:Int)=some (mkS (Fr k),()):=by
 have:k=0∨k=1∨k=2∨k=3∨k=4:=by omega
 rcases this with rfl | rfl | rfl | rfl | rfl
 ·exact fr0
 ·exact fr1
 ·exact fr2
 ·exact fr3
 ·exact fr4
def pf (F s:List UInt8):Bool:=decide (s.take F.length=F)
theorem pT (s F:List UInt8):aD.f (mkS s) (mkS F)=some (pf F s,()):=by
 unfold pf;rw[aD.f_eq,kE.f_eq,szS,szS];by_cases c:(s.length:Int)≥(F.length:Int)
 ·have e:(mkS s).extract 0 F.length=mkS (s.take F.length):=hO1 (by rw[aW1,B_mk,B_mk]);have hd:(mkS (s.take F.length)=mkS F)↔s.take F.length=F:=⟨fun h=>congrArg B h,fun h=>by rw[h]⟩
  simp(disch:=omega)only[ss,xY1,e];rw[decide_eq_decide.2 hd]
 ·rw[dn c,cond_false,dn (fun h=>c (by have:=congrArg List.length h;rw[wZ1]at this;omega))];rfl
theorem tC1 (k:Nat) (v:List UInt8):pf (Fr k) (Fr k++v)=true:=by unfold pf;rw[aC2];exact dp rfl
abbrev zM :Mt:=(0,0,0,false,zR,[],[],())
abbrev Rs :Type:=Option (Mt×Int×Int×Unit)
def bad9 (i:Int):Rs:=some (zM,i,4,())
noncomputable def QA (X:List ByteArray) (nx i:Int) (y:Mt):Rs:=kA.l1a X nx X (X.length:Int) i 0 0 0 false 0 0 0 0 0 false y
noncomputable def QB (X:List ByteArray) (s:ByteArray) (nx i:Int) (y:Mt):Rs:=kA.l2a X i s nx X (X.length:Int) i 0 0 0 false 0 0 0 0 0 false y
noncomputable def QC (X:List ByteArray) (nx i:Int) (b:Bool) (y:Mt):Rs:=bif b then bad9 i else QA X (nx+1) (i+1) y
theorem eV1 (X:List ByteArray) (nx i:Nat) (b:Bool) (y:Mt) (h:nx<10) (h2:i<1000000):kA.l5a X (i:Int) (nx:Int) X (X.length:Int) (i:Int) b 0 0 0 false 0 0 0 0 0 false y=QC X nx i b y:=by
 rw[kA.l5a_eq];unfold QC QA bad9
 cases b with
 | true=>rfl
 | false=>simp(disch:=omega)only[ss]
theorem lR1 (X:List ByteArray) (s:List UInt8) (k i:Nat) (y:Mt) (hk:k<5) (hi:i<1000000) (hp:pf (Fr k) s=true):
  QB X (mkS s) k i y=(jF.f y (k:Int) (mkS (s.drop (Fr k).length))).bind fun t=>QC X k i (!t.1) t.2.1:=by
 have hl:(Fr k).length≤s.length:=by unfold pf at hp;have:=congrArg List.length (of_decide_eq_true hp);rw[wZ1]at this;omega
 have hx:(mkS s).extract (Fr k).length s.length=mkS (s.drop (Fr k).length):=hO1 (by rw[←szS s,tR1,B_mk,B_mk]);unfold QB;rw[kA.l2a_eq];simp(disch:=omega)only[ss,fr_k k hk,pT,hp,kA.l3a_eq];rw[kA.l4a_eq];simp(disch:=omega)only[ss,fr_k k hk,pT,hp,szS,hx]
 congr 1
 funext t
 exact eV1 X k i _ _ (by omega) hi
theorem dW1 (X:List ByteArray) (s:List UInt8) (nx i:Nat) (y:Mt) (hi:i<X.length) (hX:X.getD i ByteArray.empty=mkS s):QA X nx i y=QB X (mkS s) nx i y:=by unfold QA QB;rw[kA.l1a_eq];simp(disch:=omega)only[ss,hX]
theorem yV1 (X:List ByteArray) (nx:Nat) (y:Mt):QA X nx X.length y=if nx≤1 then some (zM,(X.length:Int),2,())else(cD.f y).bind fun t=>bif !t.1 then some (zM,0,1,())else some (y,0,0,()):=by
 unfold QA;rw[kA.l1a_eq];by_cases c:nx≤1
 ·rw[if_pos c];simp(disch:=omega)only[ss];rfl
 ·rw[if_neg c];simp(disch:=omega)only[ss];rfl
theorem nU1 (X:List ByteArray) (s:List UInt8) (hi:0<X.length) (hX:X.getD 0 ByteArray.empty=mkS s):
  kA.l1 X 0 X (X.length:Int) 0 0 0 0 false 0 0 0 0 0 false 0 0 0 false 0 0 0 0 0 false=bif pf F0 s then(jF.f zM 0 (mkS (s.drop F0.length))).bind fun t=>QC X ((0:Nat):Int) ((0:Nat):Int) (!t.1) t.2.1 else bad9 0:=by
 have t0:(0:Int).toNat=0:=rfl;rw[kA.l1_eq];simp(disch:=omega)only[ss,t0,hX];rw[kA.l2_eq];simp(disch:=omega)only[ss,fr0,pT]
 cases hp:pf F0 s with
 | false=>
  simp(disch:=omega)only[ss,kA.l3_eq];rw[kA.l4_eq];simp(disch:=omega)only[ss,fr0,pT,hp,kA.l5_eq];rfl
 | true=>
  have hl:F0.length≤s.length:=by unfold pf at hp;have:=congrArg List.length (of_decide_eq_true hp);rw[wZ1]at this;omega
  have hx:(mkS s).extract F0.length s.length=mkS (s.drop F0.length):=hO1 (by rw[←szS s,tR1,B_mk,B_mk]);simp(disch:=omega)only[ss,kA.l3_eq];rw[kA.l4_eq];simp(disch:=omega)only[ss,fr0,pT,hp,szS,hx]
  congr 1
  funext t
  exact eV1 X 0 0 _ _ (by omega) (by omega)
set_option maxRecDepth 1000000
abbrev exA :List UInt8:=[48,58,50,48,50,54,48,49,48,53,84,48,57,48,48,48,48]
abbrev exB :List UInt8:=[80,84,49,72]
abbrev exR :List UInt8:=[70,82,69,81,61,87,69,69,75,76,89,59,67,79,85,78,84,61,50]
theorem bQ1 :fJ.f ⟨#[48,58,50,48,50,54,48,49,48,53,84,48,57,48,48,48,48]⟩=some (0,1767603600,true,()):=bC (E:=E) (f:=146) rfl (D:=c146) (c:=b146) (by kernel_rfl) (by kernel_rfl) _ 100 (by kernel_rfl)
theorem aX1 :gJ.f ⟨#[80,84,49,72]⟩=some (3600,0,()):=bC (E:=E) (f:=147) rfl (D:=c147) (c:=b147) (by kernel_rfl) (by kernel_rfl) _ 100 (by kernel_rfl)
theorem yS1 :dO.f ⟨#[70,82,69,81,61,87,69,69,75,76,89,59,67,79,85,78,84,61,50]⟩=some (r0,0,0,()):=bC (E:=E) (f:=148) rfl (D:=c148) (c:=b148) (by kernel_rfl) (by kernel_rfl) _ 100 (by kernel_rfl)
theorem fW1 :tO.f [68,84,83,84,65,82,84,59,84,90,73,68,61,48,58,50,48,50,54,48,49,48,53,84,48,57,48,48,48,48,13,10,68,85,82,65,84,73,79,78,58,80,84,49,72,13,10,82,82,85,76,69,58,70,82,69,81,61,87,69,69,75,76,89,59,67,79,85,78,84,61,50,13,10]=some ([⟨#[68,84,83,84,65,82,84,59,84,90,73,68,61,48,58,50,48,50,54,48,49,48,53,84,48,57,48,48,48,48]⟩,⟨#[68,85,82,65,84,73,79,78,58,80,84,49,72]⟩,⟨#[82,82,85,76,69,58,70,82,69,81,61,87,69,69,75,76,89,59,67,79,85,78,84,61,50]⟩],0,0,()):=bC (E:=E) (f:=31) rfl (D:=c31) (c:=b31) (by kernel_rfl) (by kernel_rfl) _ 300 (by kernel_rfl)
theorem ex_p :kA.f [68,84,83,84,65,82,84,59,84,90,73,68,61,48,58,50,48,50,54,48,49,48,53,84,48,57,48,48,48,48,13,10,68,85,82,65,84,73,79,78,58,80,84,49,72,13,10,82,82,85,76,69,58,70,82,69,81,61,87,69,69,75,76,89,59,67,79,85,78,84,61,50,13,10]=some ((0,1767603600,3600,true,r0,[],[],()),0,0,()):=by
 have hs:tO.f [68,84,83,84,65,82,84,59,84,90,73,68,61,48,58,50,48,50,54,48,49,48,53,84,48,57,48,48,48,48,13,10,68,85,82,65,84,73,79,78,58,80,84,49,72,13,10,82,82,85,76,69,58,70,82,69,81,61,87,69,69,75,76,89,59,67,79,85,78,84,61,50,13,10]=some ([F0++exA,F1++exB,F2++exR].map mkS,0,0,()):=fW1;obtain⟨X,hX⟩:∃X,X=[F0++exA,F1++exB,F2++exR].map mkS:=⟨_,rfl⟩
 have hl:X.length=3:=by rw[hX];rfl
 have g0:X.getD 0 ByteArray.empty=mkS (Fr 0++exA):=by rw[hX];rfl
 have g1:X.getD 1 ByteArray.empty=mkS (Fr 1++exB):=by rw[hX];rfl
 have g2:X.getD 2 ByteArray.empty=mkS (Fr 2++exR):=by rw[hX];rfl
 have r1:jF.f zM 0 (mkS exA)=some (true,(0,1767603600,0,false,zR,[],[],()),()):=by rw[jF.f_eq];simp(disch:=omega)only[ss,show fJ.f (mkS exA)=_ from bQ1]
 have r2:jF.f (0,1767603600,0,false,zR,[],[],()) ((1:Nat):Int) (mkS exB)=some (true,(0,1767603600,3600,false,zR,[],[],()),()):=by rw[jF.f_eq];simp(disch:=omega)only[ss,show gJ.f (mkS exB)=_ from aX1]
 have r3:jF.f (0,1767603600,3600,false,zR,[],[],()) ((2:Nat):Int) (mkS exR)=some (true,(0,1767603600,3600,true,r0,[],[],()),()):=by rw[jF.f_eq];simp(disch:=omega)only[ss,show dO.f (mkS exR)=_ from yS1]
 have hm:cD.f (0,1767603600,3600,true,r0,[],[],())=some (true,()):=ex_m;rw[kA.f_eq,hs,←hX];simp only[hZ1,decide_true,mZ1,cond_false];rw[nU1 X _ (by omega) g0,show pf F0 (Fr 0++exA)=true from tC1 0 exA,cond_true,show(Fr 0++exA).drop F0.length=exA from sB2 (l₁:=F0),r1];simp only[hZ1];show QA X ((1:Nat):Int) ((1:Nat):Int) _=_;rw[dW1 X _ 1 1 _ (by omega) g1,lR1 X _ 1 1 _ (by omega) (by omega) (tC1 1 exB),sB2,r2];simp only[hZ1];show QA X ((2:Nat):Int) ((2:Nat):Int) _=_;rw[dW1 X _ 2 2 _ (by omega) g2,lR1 X _ 2 2 _ (by omega) (by omega) (tC1 2 exR),sB2,r3];simp only[hZ1];show QA X ((3:Nat):Int) ((3:Nat):Int) _=_;have:=yV1 X 3 (0,1767603600,3600,true,r0,[],[],());rw[hl,if_neg (by omega),hm]at this;exact this
set_option maxRecDepth 1000000
abbrev exD :Int×Int×Int×Int×Int×Unit:=(20458,2026,1,5,0,())
abbrev exP :(Int×Int×Int×Int×Int×Bool×List Int×List Int×List Int×List Int×List (Int×Int×Unit)×List Int×List Int×List Int×List Int×Unit)×((Int×Int×Int×Int×Int×Bool×List Int×List Int×List Int×List Int×List (Int×Int×Unit)×List Int×List Int×List Int×List Int×Unit)×Int×(Int×Int×Int×Int×Int×Unit)×Int×Unit)×Int×List Int×List Int×List Int×Unit:=(r0,(r0,1767603600,exD,32400,()),1767603600,[9],[0],[0],())
theorem dU1 :dC.f r0 1767603600 1772496000=some (exP,true,()):=bC (E:=E) (f:=103) rfl (D:=c103) (c:=b103) (by kernel_rfl) (by kernel_rfl) _ 120 (by kernel_rfl)
theorem rY1 :xC.f (r0,1767603600,exD,32400,()) 1767603600=some (20458,20464,()):=bC (E:=E) (f:=274) rfl (D:=c274) (c:=b274) (by kernel_rfl) (by kernel_rfl) _ 60 (by kernel_rfl)
theorem aZ1 :xC.f (r0,1767603600,exD,32400,()) 1768176000=some (20465,20471,()):=bC (E:=E) (f:=274) rfl (D:=c274) (c:=b274) (by kernel_rfl) (by kernel_rfl) _ 60 (by kernel_rfl)
theorem dZ1 :dD.f exP 1767603600=some (true,()):=bC (E:=E) (f:=275) rfl (D:=c275) (c:=b275) (by kernel_rfl) (by kernel_rfl) _ 60 (by kernel_rfl)
theorem vX1 :dD.f exP 1768176000=some (true,()):=bC (E:=E) (f:=275) rfl (D:=c275) (c:=b275) (by kernel_rfl) (by kernel_rfl) _ 60 (by kernel_rfl)
theorem hY1 :nB.f exP 20458=some (true,()):=bC (E:=E) (f:=277) rfl (D:=c277) (c:=b277) (by kernel_rfl) (by kernel_rfl) _ 60 (by kernel_rfl)
theorem yY1 :nB.f exP 20459=some (false,()):=bC (E:=E) (f:=277) rfl (D:=c277) (c:=b277) (by kernel_rfl) (by kernel_rfl) _ 60 (by kernel_rfl)
theorem fY1 :nB.f exP 20460=some (false,()):=bC (E:=E) (f:=277) rfl (D:=c277) (c:=b277) (by kernel_rfl) (by kernel_rfl) _ 60 (by kernel_rfl)
theorem zY1 :nB.f exP 20461=some (false,()):=bC (E:=E) (f:=277) rfl (D:=c277) (c:=b277) (by kernel_rfl) (by kernel_rfl) _ 60 (by kernel_rfl)
theorem cY1 :nB.f exP 20462=some (false,()):=bC (E:=E) (f:=277) rfl (D:=c277) (c:=b277) (by kernel_rfl) (by kernel_rfl) _ 60 (by kernel_rfl)
theorem vY1 :nB.f exP 20463=some (false,()):=bC (E:=E) (f:=277) rfl (D:=c277) (c:=b277) (by kernel_rfl) (by kernel_rfl) _ 60 (by kernel_rfl)
theorem sX1 :nB.f exP 20464=some (false,()):=bC (E:=E) (f:=277) rfl (D:=c277) (c:=b277) (by kernel_rfl) (by kernel_rfl) _ 60 (by kernel_rfl)
theorem qY1 :nB.f exP 20465=some (true,()):=bC (E:=E) (f:=277) rfl (D:=c277) (c:=b277) (by kernel_rfl) (by kernel_rfl) _ 60 (by kernel_rfl)
theorem pY1 :dA.f exP 20458 0 86400 100000 ()=some ([1767603600],(),()):=bC (E:=E) (f:=100000) rfl (D:=oX) (c:=jL1) (by kernel_rfl) (by kernel_rfl) _ 60 (by kernel_rfl)
theorem tY1 :dA.f exP 20465 0 86400 100000 ()=some ([1768208400],(),()):=bC (E:=E) (f:=100000) rfl (D:=oX) (c:=jL1) (by kernel_rfl) (by kernel_rfl) _ 60 (by kernel_rfl)
abbrev exC (l:List Int):(Int×Unit)×(Int×Unit)×((((List Int)×Unit)×(Int×Unit)×Unit)×Unit)×Unit:=((1767603600,()),(1772496000,()),(((l,()),(2,()),()),()),())
theorem sY1 :pA.f [1767603600] (1767603600,()) (1772496000,()) ((([],()),(2,()),()),())=some (true,(1767603600,()),(1772496000,()),((([1767603600],()),(2,()),()),()),()):=bC (E:=E) (f:=100004) rfl (D:=xW) (c:=sI1) (by kernel_rfl) (by kernel_rfl) _ 60 (by kernel_rfl)
theorem iX1 :pA.f [1768208400] (1767603600,()) (1772496000,()) ((([1767603600],()),(2,()),()),())=some (false,(1767603600,()),(1772496000,()),((([1767603600,1768208400],()),(2,()),()),()),()):=bC (E:=E) (f:=100004) rfl (D:=xW) (c:=sI1) (by kernel_rfl) (by kernel_rfl) _ 60 (by kernel_rfl)
theorem iW1 :gE.f 1767603600=some (20458,32400,()):=bC (E:=E) (f:=128) rfl (D:=c128) (c:=b128) (by kernel_rfl) (by kernel_rfl) _ 60 (by kernel_rfl)
theorem vW1 :gE.f 1772496000=some (20515,0,()):=bC (E:=E) (f:=128) rfl (D:=c128) (c:=b128) (by kernel_rfl) (by kernel_rfl) _ 60 (by kernel_rfl)
theorem pG1 (d:Int) (h0:20458≤d) (hd:d≤20464) (hf:nB.f exP d=some (false,())):fA.l1 20464 20515 d 1767603600 1772496000 2 [1767603600] exP=fA.l1 20464 20515 (d+1) 1767603600 1772496000 2 [1767603600] exP:=by
 have hm:mm false 20464 20515=20464:=rfl
 conv=>lhs;rw[fA.l1_eq]
 simp(disch:=omega)only[ss,hm,hf,fA.l2_eq]
theorem tX1 :fA.f exP 1767603600 20458 20464 1767603600 1772496000 (exC [])=some (true,exC [1767603600],()):=by
 have hm:mm false 20464 20515=20464:=rfl;have h0:fA.f exP 1767603600 20458 20464 1767603600 1772496000 (exC [])=fA.l1 20464 20515 20458 1767603600 1772496000 2 [] exP:=by rw[fA.f_eq,iW1,vW1];rfl
 rw[h0,fA.l1_eq,hm,dp (by omega),cond_true,hY1];simp only[hZ1,cond_true];rw[pY1];simp only[hZ1];rw[sY1];simp only[hZ1,mZ1];rw[fA.l2_eq,cond_false,wr (by omega) (by omega)]
 rw[show(20458+1:Int)=20459 from rfl,pG1 20459 (by omega) (by omega) yY1,show(20459+1:Int)=20460 from rfl,pG1 20460 (by omega) (by omega) fY1,show(20460+1:Int)=20461 from rfl,pG1 20461 (by omega) (by omega) zY1,
  show(20461+1:Int)=20462 from rfl,pG1 20462 (by omega) (by omega) cY1,show(20462+1:Int)=20463 from rfl,pG1 20463 (by omega) (by omega) vY1,show(20463+1:Int)=20464 from rfl,pG1 20464 (by omega) (by omega) sX1,show(20464+1:Int)=20465 from rfl]
 rw[fA.l1_eq,hm,dn (by omega),cond_false]
theorem kX1 :fA.f exP 1768176000 20465 20471 1767603600 1772496000 (exC [1767603600])=some (false,exC [1767603600,1768208400],()):=by
 have hm:mm false 20471 20515=20471:=rfl;have h0:fA.f exP 1768176000 20465 20471 1767603600 1772496000 (exC [1767603600])=fA.l1 20471 20515 20465 1767603600 1772496000 2 [1767603600] exP:=by rw[fA.f_eq,iW1,vW1];rfl
 rw[h0,fA.l1_eq,hm,dp (by omega),cond_true,qY1];simp only[hZ1,cond_true];rw[tY1];simp only[hZ1];rw[iX1];simp only[hZ1,aA2];rw[fA.l2_eq,cond_true]
theorem dT1 :mA.f exP 1767603600 1772496000 (exC [])=some (exC [1767603600,1768208400],()):=by rw[mA.f_eq,mA.l1_eq,dp (by omega),cond_true];rw[show xC.f exP.2.1 1767603600=_ from rY1];simp only[hZ1];rw[dZ1];simp only[hZ1,cond_true];rw[tX1];simp only[hZ1,mZ1];rw[mA.l2_eq,cond_false,wr (x:=20464+1) (by omega) (by omega),wr (by omega) (by omega),show((20464+1)*86400:Int)=1768176000 from rfl,mA.l1_eq,dp (by omega),cond_true];rw[show xC.f exP.2.1 1768176000=_ from aZ1];simp only[hZ1];rw[vX1];simp only[hZ1,cond_true];rw[kX1];simp only[hZ1,aA2];rw[mA.l2_eq,cond_true]
theorem ex_l :qE.f r0 1767603600 1772496000 4096=some ([1767603600,1768208400],0,()):=by
 have hw:qB.f exP 1767603600 1772496000 (([],()),(2,()),())=some ((([1767603600,1768208400],()),(2,()),()),()):=by rw[qB.f_eq];dsimp only;rw[cond_false,show mm true 1767603600 1767603600=1767603600 from rfl,qB.l1_eq];dsimp only;rw[dp (by omega),cond_true,dT1];rfl
 have hf:oC.f exP r0 1767603600 1772496000 4097=some ([1767603600,1768208400],()):=by rw[oC.f_eq];dsimp only;rw[dp (by omega),cond_true,show mm false 4097 2=2 from rfl,oC.l1_eq,hw];rfl
 rw[qE.f_eq,dU1];simp only[hZ1,mZ1,cond_false];rw[dn (by omega),cond_false,dn (by omega),cond_false,wr (by omega) (by omega),show(4096+1:Int)=4097 from rfl,hf];simp(disch:=omega)only[ss,hA2,gB2]
abbrev wY1 (l:List Int):Prop:=l.Pairwise (· < ·)
def dd :Int→List Int→List Int
 | _,[]=>[]
 | p,a::l=>if a=p then dd a l else a::dd a l
theorem iR1 :∀(l:List Int) (p x:Int),x∈dd p l∨x=p↔x∈l∨x=p
 | [],p,x=>by simp[dd]
 | a::l,p,x=>by
  unfold dd;have ih:=iR1 l a x;by_cases h:a=p
  ·subst h;rw[if_pos rfl,ih,pZ1];constructor
   ·rintro(h | h)
    ·exact .inl (.inr h)
    ·exact .inr h
   ·rintro((h | h) | h)
    ·exact .inr h
    ·exact .inl h
    ·exact .inr h
  ·rw[if_neg h,pZ1,pZ1];constructor
   ·rintro((h1 | h1) | h1)
    ·exact .inl (.inl h1)
    ·rcases ih.1 (.inl h1)with h2 | h2
     ·exact .inl (.inr h2)
     ·exact .inl (.inl h2)
    ·exact .inr h1
   ·rintro((h1 | h1) | h1)
    ·exact .inl (.inl h1)
    ·rcases ih.2 (.inl h1)with h2 | h2
     ·exact .inl (.inr h2)
     ·exact .inl (.inl h2)
    ·exact .inr h1
theorem xF1 :∀(l:List Int) (p:Int),(p::l).Pairwise (· ≤ ·)→wY1 (p::dd p l)
 | [],p,_=>tC2 _ _
 | a::l,p,h=>by
  unfold dd;rw[tA2]at h;have ih:=xF1 l a h.2;by_cases he:a=p
  ·subst he;rw[if_pos rfl];exact ih
  ·rw[if_neg he];have hlt:p<a:=by have:=h.1 a nZ1;omega
   refine tA2.2 ⟨fun b hb=>?_,ih⟩;rcases pZ1.1 hb with rfl | hb
   ·exact hlt
   ·have:=(tA2.1 ih).1 b hb;omega
def dds :List Int→List Int
 | []=>[]
 | a::l=>a::dd a l
theorem rU1 (N:Nat) (hN:N≤1000000) (b:Nat):∀(k i q:Nat) (y:List Int),y.length=N→N-(b+q)=k→1≤q→i<b+q→b+q≤N →
  eA.l3 i b q y=some (y.take i++dd (y.getD (b+q-1) 0) (y.drop (b+q)),()):=by
 intro k
 induction k with
 | zero=>
  intro i q y hy hk hq hi hb;have e:b+q=y.length:=by omega
  have e2:(y.take i++List.replicate (y.length-i) 0).take i=y.take i:=by rw[mB2 (by rw[wZ1];omega),List.take_take,Nat.min_self]
  rw[eA.l3_eq,e,vA2];simp(disch:=omega)only[ss,lZ1,wZ1,List.length_replicate,e2,eA.l4_eq,dd,cA2]
 | succ k ih=>
  intro i q y hy hk hq hi hb;have hlt:b+q<y.length:=by omega
  have w1:w6 ((q:Int)-1)=((q-1:Nat):Int):=yX (by omega) (by omega);have w2:((b:Int)+((q-1:Nat):Int)).toNat=b+q-1:=by omega
  have e1:((q:Int)<((y.length-b:Nat):Int)):=by omega
  rw[eA.l3_eq,vB 0 hlt];simp(disch:=omega)only[ss,w1,w2,e1,hB2,dd];by_cases hc:y.getD (b+q) 0=y.getD (b+q-1) 0
  ·simp(disch:=omega)only[ss,if_pos hc];have:=ih i (q+1) y hy (by omega) (by omega) (by omega) (by omega);rw[show b+(q+1)-1=b+q by omega,show b+(q+1)=b+q+1 by omega]at this;exact this
  ·simp(disch:=omega)only[ss,if_neg hc];have:=ih (i+1) (q+1) (y.set i (y.getD (b+q) 0)) (by simp[hy]) (by omega) (by omega) (by omega) (by omega);refine this.trans ?_;have g1:(y.set i (y.getD (b+q) 0)).getD (b+(q+1)-1) 0=y.getD (b+q) 0:=by
    rw[show b+(q+1)-1=b+q by omega,kZ1,kZ1,List.getElem?_set];by_cases h:i=b+q
    ·omega
    ·rw[if_neg h]
   have g2:(y.set i (y.getD (b+q) 0)).getD i 0=y.getD (b+q) 0:=by rw[rO 0 (show i<(y.set i (y.getD (b+q) 0)).length by simp;omega)];simp
   rw[g1,zG 0 (show i<(y.set i (y.getD (b+q) 0)).length by simp;omega),List.drop_set_of_lt (by omega),List.take_set_of_le (tZ1 i),g2,show b+(q+1)=b+q+1 by omega];simp
theorem cS1 (y:List Int) (hN:y.length≤1000000):∀(k q:Nat),y.length-q=k→1≤q→q≤y.length →
  eA.l2 q y=some (y.take q++dd (y.getD (q-1) 0) (y.drop q),()):=by
 intro k
 induction k with
 | zero=>
  intro q hk hq hq2;have e:q=y.length:=by omega
  subst e;rw[eA.l2_eq];simp(disch:=omega)only[ss,eA.l5_eq,vA2,List.take_length,dd,cA2]
 | succ k ih=>
  intro q hk hq hq2;have hlt:q<y.length:=by omega
  have w1:w6 ((q:Int)-1)=((q-1:Nat):Int):=yX (by omega) (by omega);rw[eA.l2_eq,vB 0 hlt];simp(disch:=omega)only[ss,w1,dd];by_cases hc:y.getD q 0=y.getD (q-1) 0
  ·simp(disch:=omega)only[ss,if_pos hc];have:=rU1 y.length hN q _ q 1 y rfl rfl (tZ1 _) (by omega) (by omega);rw[show q+1-1=q by omega]at this;exact this
  ·simp(disch:=omega)only[ss,if_neg hc];have:=ih (q+1) (by omega) (by omega) (by omega);rw[show q+1-1=q by omega,zG 0 hlt]at this;refine Eq.trans this ?_;simp
theorem mZ (y:List Int) (hN:y.length≤1000000):eA.f y=some (dds y,()):=by
 rw[eA.f_eq]
 cases y with
 | nil=>simp(disch:=omega)only[ss,gB2,yZ1,eA.l1_eq];rfl
 | cons a l=>
  by_cases h:l=[]
  ·subst h;simp(disch:=omega)only[ss,hA2,gB2,eA.l1_eq];rfl
  ·have h1:0<l.length:=vC2.2 h;have:=cS1 (a::l) hN _ 1 rfl (tZ1 _) (by simp);simp(disch:=omega)only[ss,hA2];refine Eq.trans this ?_;rfl
def mM (ex:List Int) (e t:Int):Bool:= !(decide (t∈ex)||decide (t≥e))
theorem wM1 {p:Int→Bool} {x:Int} (h:p x=false):List.filter p [x]=[]:=by rw[List.filter_cons,h];rfl
theorem eO1 {p:Int→Bool} {x:Int} (h:p x=true):List.filter p [x]=[x]:=by rw[List.filter_cons,h];rfl
section
variable (z st du : Int) (rc : Bool) (f iv ct un wk : Int) (en : Bool) (mo we yd md : List Int) (dy : List (Int × Int × Unit)) (ho mi se po da ex : List Int) (e : Int)
theorem bW1 (hx:Rise ex) (hl:ex.length≤1000000) (t:Int):fG.f t (z,st,du,rc,f,iv,ct,un,wk,en,mo,we,yd,md,dy,ho,mi,se,po,da,ex,()) (e,())=some (!mM ex e t,(z,st,du,rc,f,iv,ct,un,wk,en,mo,we,yd,md,dy,ho,mi,se,po,da,ex,()),(e,()),()):=by
 obtain⟨i,h1,h2,h3⟩:=fR1 hl hx t;have hd:decide (i<ex.length∧ex.getD i 0=t)=decide (t∈ex):=decide_eq_decide.2 ⟨fun h=>by rw[←h.2];exact bI h.1,h3⟩;rw[hd]at h1;rw[fG.f_eq];dsimp only;rw[h1];simp only[hZ1];unfold mM;by_cases c:t∈ex
 ·rw[dp c,cond_true,Bool.true_or];rfl
 ·rw[dn c,cond_false,Bool.false_or,Bool.not_not]
theorem mW1 (hx:Rise ex) (hl:ex.length≤1000000) (l:List Int) (hn:l.length≤1000000):∀(k i:Nat),l.length-i=k→i≤l.length →
  (∃j,i≤j∧j<l.length∧mM ex e (l.getD j 0)=false∧(∀q,i≤q→q<j→mM ex e (l.getD q 0)=true)∧bB.l1 (l.length:Int) (i:Int) l (z,st,du,rc,(f,iv,ct,un,wk,en,mo,we,yd,md,dy,ho,mi,se,po,()),da,ex,()) e=some ((j:Int),l,((z,st,du,rc,f,iv,ct,un,wk,en,mo,we,yd,md,dy,ho,mi,se,po,da,ex,()),(e,()),()),())) ∨
  ((∀q,i≤q→q<l.length→mM ex e (l.getD q 0)=true)∧bB.l1 (l.length:Int) (i:Int) l (z,st,du,rc,(f,iv,ct,un,wk,en,mo,we,yd,md,dy,ho,mi,se,po,()),da,ex,()) e=some (-1,l,((z,st,du,rc,f,iv,ct,un,wk,en,mo,we,yd,md,dy,ho,mi,se,po,da,ex,()),(e,()),()),())):=by
 intro k
 induction k with
 | zero=>
  intro i hk hi;refine .inr ⟨fun q h1 h2=>by omega,?_⟩;rw[bB.l1_eq];simp(disch:=omega)only[ss]
 | succ k ih=>
  intro i hk hi;have hlt:i<l.length:=by omega
  rw[bB.l1_eq];dsimp only;have h1:=bW1 z st du rc f iv ct un wk en mo we yd md dy ho mi se po da ex e hx hl (l.getD i 0);simp(disch:=omega)only[ss,h1];cases hkp:mM ex e (l.getD i 0)with
  | false=>
   refine .inl ⟨i,tZ1 _,hlt,hkp,fun q h1 h2=>by omega,?_⟩;rfl
  | true=>
   simp only[mZ1,cond_false];rcases ih (i+1) (by omega) (by omega)with⟨j,a1,a2,a3,a4,a5⟩ | ⟨a1,a2⟩
   ·refine .inl ⟨j,by omega,a2,a3,fun q q1 q2=>?_,a5⟩;by_cases c:q=i
    ·rw[c];exact hkp
    ·exact a4 q (by omega) q2
   ·refine .inr ⟨fun q q1 q2=>?_,a2⟩;by_cases c:q=i
    ·rw[c];exact hkp
    ·exact a1 q (by omega) q2
theorem lW1 (hx:Rise ex) (hl:ex.length≤1000000) (l:List Int) (hn:l.length≤1000000):∀(k i p:Nat) (y:List Int),l.length-i=k→i≤l.length→p≤i→y.length=l.length→y.take p=(l.take i).filter (mM ex e)→y.drop i=l.drop i →
  gA.l2 (p:Int) (i:Int) y (z,st,du,rc,(f,iv,ct,un,wk,en,mo,we,yd,md,dy,ho,mi,se,po,()),da,ex,()) e=some (l.filter (mM ex e),((z,st,du,rc,f,iv,ct,un,wk,en,mo,we,yd,md,dy,ho,mi,se,po,da,ex,()),(e,()),()),()):=by
 intro k
 induction k with
 | zero=>
  intro i p y hk hi hp hy ht hd;have e1:i=l.length:=by omega
  subst e1;rw[List.take_length]at ht;have hlen:(y.take p++List.replicate (y.length-p) 0).length=y.length:=by simp;omega
  have htk:(y.take p++List.replicate (y.length-p) 0).take p=l.filter (mM ex e):=by rw[mB2 (by rw[wZ1];omega),List.take_take,Nat.min_self,ht]
  rw[gA.l2_eq];simp(disch:=omega)only[ss,hlen,htk,gA.l3_eq]
 | succ k ih=>
  intro i p y hk hi hp hy ht hd;have hlt:i<l.length:=by omega
  have hg:y.getD i 0=l.getD i 0:=by have h1:=vB 0 (show i<y.length by omega);have h2:=vB 0 hlt;rw[hd,h2]at h1;injection h1 with h1 _;exact h1.symm
  have hd':y.drop (i+1)=l.drop (i+1):=by have h1:=congrArg (List.drop 1) hd;rwa[List.drop_drop,List.drop_drop]at h1
  have h1:=bW1 z st du rc f iv ct un wk en mo we yd md dy ho mi se po da ex e hx hl (l.getD i 0);rw[gA.l2_eq];dsimp only;simp(disch:=omega)only[ss,hg,h1];cases hkp:mM ex e (l.getD i 0)with
  | false=>
   simp only[aA2,cond_true,mZ1,cond_false];exact ih (i+1) p y (by omega) (by omega) (by omega) hy (by rw[zG 0 hlt,List.filter_append,ht,wM1 hkp,cA2]) hd'
  | true=>
   simp only[aA2,cond_true,mZ1,cond_false];refine ih (i+1) (p+1) (y.set p (l.getD i 0)) (by omega) (by omega) (by omega) (by rw[nC2];exact hy) ?_ ?_
   ·rw[zG 0 hlt,List.filter_append,←ht];rw[zG 0 (show p<(y.set p (l.getD i 0)).length by rw[nC2];omega),List.take_set_of_le (tZ1 _)]
    congr 1
    rw[kZ1,List.getElem?_set_self (by omega),xB2,eO1 hkp]
   ·rw[List.drop_set_of_lt (by omega)];exact hd'
theorem aQ1 (hx:Rise ex) (hl:ex.length≤1000000) (l:List Int) (hn:l.length≤1000000):gA.f l ((z,st,du,rc,f,iv,ct,un,wk,en,mo,we,yd,md,dy,ho,mi,se,po,da,ex,()),(e,()),())=some (l.filter (mM ex e),((z,st,du,rc,f,iv,ct,un,wk,en,mo,we,yd,md,dy,ho,mi,se,po,da,ex,()),(e,()),()),()):=by
 have hI:∀v,bB.l1 (l.length:Int) ((0:Nat):Int) l (z,st,du,rc,(f,iv,ct,un,wk,en,mo,we,yd,md,dy,ho,mi,se,po,()),da,ex,()) e=v→bB.f l ((z,st,du,rc,f,iv,ct,un,wk,en,mo,we,yd,md,dy,ho,mi,se,po,da,ex,()),(e,()),())=v:=fun v h=>by rw[bB.f_eq];exact h
 rw[gA.f_eq];dsimp only;rcases mW1 z st du rc f iv ct un wk en mo we yd md dy ho mi se po da ex e hx hl l hn _ 0 rfl (oZ1 _)with⟨j,a1,a2,a3,a4,a5⟩ | ⟨a1,a2⟩
 ·rw[hI _ a5];simp(disch:=omega)only[ss];refine lW1 z st du rc f iv ct un wk en mo we yd md dy ho mi se po da ex e hx hl l hn _ (j+1) j l rfl (by omega) (by omega) rfl ?_ rfl;rw[zG 0 a2,List.filter_append]
  have:(l.take j).filter (mM ex e)=l.take j:=List.filter_eq_self.2 fun x hx=>by obtain⟨q,h1,h2⟩:=qW hx;rw[wZ1]at h1;rw[←h2,kZ1,List.getElem?_take_of_lt (by omega),←kZ1];exact a4 q (by omega) (by omega)
  rw[this,wM1 a3,cA2]
 ·rw[hI _ a2];simp(disch:=omega)only[ss,gA.l1_eq]
  have:l.filter (mM ex e)=l:=List.filter_eq_self.2 fun x hx=>by obtain⟨q,h1,h2⟩:=qW hx;rw[←h2];exact a1 q (by omega) h1
  rw[this]
theorem mB1 (y:List Int) (hy:y.length≤1000000):nD.f y=some (y.mergeSort fun x y=>decide (x≤y),()):=by rw[nD.f_sem];show(bif decide (List.length y≤yC)then some (y.mergeSort fun x y=>decide (x≤y),())else none)=_;rw[dp (by simp only[yC];omega),cond_true]
theorem dX (y:List Int) (hy:y.length≤1000000):iC.f y=some (y,()):=by rw[iC.f_sem];show(bif decide (List.length y≤yC)then some (y,())else none)=_;rw[dp (by simp only[yC];omega),cond_true]
theorem sB1 (y:List Int) (x:Int):x∈dds y↔x∈y:=by
 cases y with
 | nil=>exact Iff.rfl
 | cons a r=>
  show x∈a::dd a r↔_;rw[pZ1,pZ1];have:=iR1 r a x;exact⟨fun h=>(this.1 h.symm).symm,fun h=>(this.2 h.symm).symm⟩
theorem cZ (y:List Int) (h:y.Pairwise (· ≤ ·)):Rise (dds y):=by
 cases y with
 | nil=>exact List.Pairwise.nil
 | cons a r=>exact xF1 r a h
theorem rZ (y:List Int):(y.mergeSort fun x y=>decide (x≤y)).Pairwise (· ≤ ·):=
 (List.pairwise_mergeSort (le:=fun x y:Int=>decide (x≤y)) (fun a b c h1 h2=>by simp at *;omega) (fun a b=>by simp;omega) y).imp fun h=>of_decide_eq_true h
theorem gU :∀(l:List Int) (p:Int),(dd p l).length≤l.length
 | [],_=>tZ1 _
 | a::l,p=>by unfold dd;have:=gU l a;split <;> simp <;> omega
theorem lD1 (y:List Int):(dds y).length≤y.length:=by
 cases y with
 | nil=>exact tZ1 _
 | cons a r=>exact Nat.succ_le_succ (gU r a)
noncomputable def locL (l da ex:List Int) (e:Int):List Int:=(dds ((l++da).mergeSort fun x y=>decide (x≤y))).filter (mM ex e)
theorem hF1 {l da ex:List Int} {e x:Int}:x∈locL l da ex e↔(x∈l∨x∈da)∧x∉ex∧x<e:=by unfold locL mM;rw[oB2,sB1,List.mem_mergeSort,sZ1];simp
theorem bZ (l da ex:List Int) (e:Int):Rise (locL l da ex e):=List.Pairwise.filter _ (cZ _ (rZ _))
noncomputable def locE (l da ex:List Int) (e:Int):Option (List Int×Int×Unit):=if((locL l da ex e).length:Int)>4096 then some ([],10,())else some (locL l da ex e,0,())
theorem mD1 (hx:Rise ex) (hl:ex.length≤1000000) (l:List Int) (h1:l.length≤400000) (h2:da.length≤400000):
  jC.l1 l (z,st,du,rc,(f,iv,ct,un,wk,en,mo,we,yd,md,dy,ho,mi,se,po,()),da,ex,()) e=locE l da ex e∧jC.l1a (z,st,du,rc,(f,iv,ct,un,wk,en,mo,we,yd,md,dy,ho,mi,se,po,()),da,ex,()) e l=locE l da ex e:=by
 have hlim:yC=17179869184:=rfl;have hs:=mB1 (l++da) (by rw[lZ1];omega);have hc:=mZ ((l++da).mergeSort fun x y=>decide (x≤y)) (by rw[List.length_mergeSort,lZ1];omega);have hdl:=lD1 ((l++da).mergeSort fun x y=>decide (x≤y));rw[List.length_mergeSort,lZ1]at hdl;have hd:=aQ1 z st du rc f iv ct un wk en mo we yd md dy ho mi se po da ex e hx hl (dds ((l++da).mergeSort fun x y=>decide (x≤y))) (by omega);have hk:=dX l (by omega)
 have fin:(bif decide (((locL l da ex e).length:Int)>4096)then(some (([]:List Int),(10:Int),()))else(some (locL l da ex e,0,())))=locE l da ex e:=by
  unfold locE;by_cases c:((locL l da ex e).length:Int)>4096
  ·rw[dp c,if_pos c];rfl
  ·rw[dn c,if_neg c];rfl
 rw[jC.l1_eq,jC.l1a_eq,hk];dsimp only;simp only[hZ1];rw[dp (by omega),cond_true,hs];simp only[hZ1];rw[hc];simp only[hZ1];rw[hd];exact⟨fin,fin⟩
end
theorem uW1 :jC.f (0,1767603600,3600,true,r0,[],[],()) 1772496000=some ([1767603600,1768208400],0,()):=by
 rw[jC.f_eq,ex_m];dsimp only;simp only[hZ1,mZ1,cond_false,cond_true];rw[ex_l];simp only[hZ1];have h:=(mD1 0 1767603600 3600 true 3 1 2 0 0 false [] [] [] [] [] [] [] [] [] [] [] 1772496000 List.Pairwise.nil (by simp) [1767603600,1768208400] (by simp) (by simp)).1;have hL:locL [1767603600,1768208400] [] [] 1772496000=[1767603600,1768208400]:=by
  refine qI (bZ _ _ _ _) (by unfold Rise;simp) fun x=>?_
  rw[hF1];simp;omega
 unfold locE at h;rw[hL,if_neg (by simp)]at h;exact h
theorem yP1 :jB.f (0,1767603600,3600,true,r0,[],[],()) [(3600,[],[],0,())] 1772323200=some ([(1767600000,1767603600,()),(1768204800,1768208400,())],0,()):=by
 let U:Int→Int:=fun t=>t-3600
 have hU:okU (([(3600,[],[],0,())]:List Zn).getD (0:Int).toNat zZ) U [1767603600,1768208400]:=by
  intro t ht;simp only[pZ1,List.not_mem_nil,or_false]at ht;rcases ht with rfl | rfl
  ·exact⟨qX1,by decide,by decide⟩
  ·exact⟨jX1,by decide,by decide⟩
 obtain⟨r,h1,h2,h3⟩:=gZ [(3600,[],[],0,())] 1772323200 [1767603600,1768208400] U (0,1767603600,3600,true,r0,[],[],()) (by simp) (by simp) (by simp) hU;have hs:spF U 3600 1772323200 [1767603600,1768208400]=[(1767600000,1767603600,()),(1768204800,1768208400,())]:=by decide
 have h1:r.Perm [(1767600000,1767603600,()),(1768204800,1768208400,())]:=by rw[←hs];exact h1
 have hr:r=[(1767600000,1767603600,()),(1768204800,1768208400,())]:=by
  have hl:=h1.length_eq
  match r,hl with
  | [a,b],_=>
   have ha:=h1.mem_iff.1 (show a∈[a,b] by simp);have hb:=h1.mem_iff.1 (show b∈[a,b] by simp);have hab:=(tA2.1 h2).1 b (by simp);have q1:=h1.mem_iff.2 (show((1767600000,1767603600,()):Sp)∈_ by simp);have q2:=h1.mem_iff.2 (show((1768204800,1768208400,()):Sp)∈_ by simp);simp only[pZ1,List.not_mem_nil,or_false]at ha hb q1 q2;rcases ha with rfl | rfl <;> rcases hb with rfl | rfl
   ·simp at q2
   ·rfl
   ·simp at hab
   ·simp at q1
 subst hr;rw[jB.f_eq,ex_m];dsimp only;simp only[hZ1,mZ1,cond_false];rw[show gC.f (([(3600,[],[],0,())]:List Zn).getD (0:Int).toNat (0,[],[],0,()))=some (true,())from ex_z,hV1,pW1];simp(disch:=omega)only[ss,jB.l1_eq,hA2,gB2];rw[show(1772323200+172800:Int)=1772496000 from rfl,uW1];simp(disch:=omega)only[ss];rw[show(([1767603600,1768208400]:List Int).length:Int)=((([1767603600,1768208400]:List Int).length:Nat):Int)from rfl];refine Eq.trans h3 ?_;decide
theorem aE :yB.f=some (true,()):=by rw[yB.f_eq,ex_p,pX1];simp only[hZ1,hA2,gB2];rw[yP1,ex_a,ex_b];simp only[hZ1];rw[show w6 (1767600000+3600)=1767603600 by rw[wr (by omega) (by omega)];rfl,show w6 (1768204800+3600)=1768208400 by rw[wr (by omega) (by omega)];rfl,fW _ _ (by simp)];simp(disch:=omega)only[ss]
theorem cO1 {α:Type} (A B:List α) (n:Nat):(A++B).take n=A.take n++B.take (n-A.length):=List.take_append
theorem qQ1 {r:Rl} {s e e':Int} (h:s≤e') (h2:e'≤e):∃R,LS r s e=LS r s e'++R ∧ ∀x,x∈R→e'≤x:=by
 have hsp:memR r s e=memR r s e'++memL (belR r s) e' e:=(zH1 (belR r s) h h2).symm;unfold LS;rw[hsp];by_cases c:r.2.2.1>0
 ·rw[if_pos c,if_pos c,cO1];exact⟨_,rfl,fun x hx=>((oG _).1 (pC2 hx)).2.1⟩
 ·rw[if_neg c,if_neg c];exact⟨_,rfl,fun x hx=>((oG _).1 hx).2.1⟩
theorem mG1 {l:List Int} (h:vT l):Rise l:=wD1 fun j h0 hj=>(nQ h).2.1 j hj h0
noncomputable def nT (m:Mt) (e:Int):List Int:=if m.2.2.2.1=true then LS m.2.2.2.2.1 m.2.1 e else [m.2.1]
noncomputable def allL (m:Mt) (e:Int):List Int:=locL (nT m e) m.2.2.2.2.2.1 m.2.2.2.2.2.2.1 e
theorem tN {m:Mt} {e x:Int}:x∈allL m e↔(x∈nT m e∨x∈m.2.2.2.2.2.1)∧x∉m.2.2.2.2.2.2.1∧x<e:=hF1
theorem oT (m:Mt) (e:Int):Rise (allL m e):=bZ _ _ _ _
theorem kL1 (m:Mt) (hs:iB1 m) (e:Int):∃L cd,jC.f m e=some (L,cd,())∧(¬cd=0→L=[]) ∧
  (cd=0→mayM m∧L=allL m e∧L.length≤4096∧(m.2.2.2.1=true→okE m.2.1 e))∧(¬mayM m→cd=1):=by
 obtain⟨b,hb,hb2⟩:=jV1 m hs;by_cases hM:mayM m
 ·have hb1:b=true:=hb2.2 hM;subst hb1;obtain⟨z,st,du,rc,⟨f,iv,ct,un,wk,en,mo,we,yd,md,dy,ho,mi,se,po,⟨⟩⟩,da,ex,⟨⟩⟩:=m;have hM0:=hM;obtain⟨m1,m2,m3,m4,m5,m6,m7,m8,m9⟩:=hM;obtain⟨s1,s2,s3⟩:=hs;dsimp only at s1 s2 s3 m1 m2 m3 m4 m5 m6 m7 m8 m9;have hda:=(nQ m6).1;have hex:=(nQ m7).1;have hrx:=mG1 m7;rw[jC.f_eq,hb];dsimp only;simp only[hZ1,mZ1,cond_false];have fin:∀l:List Int,l.length≤4096→l=nT (z,st,du,rc,(f,iv,ct,un,wk,en,mo,we,yd,md,dy,ho,mi,se,po,()),da,ex,()) e→(rc=true→okE st e) → ∃L cd,locE l da ex e=some (L,cd,())∧(¬cd=0→L=[]) ∧
    (cd=0→mayM (z,st,du,rc,(f,iv,ct,un,wk,en,mo,we,yd,md,dy,ho,mi,se,po,()),da,ex,())∧L=allL (z,st,du,rc,(f,iv,ct,un,wk,en,mo,we,yd,md,dy,ho,mi,se,po,()),da,ex,()) e∧L.length≤4096∧(rc=true→okE st e))∧(¬mayM (z,st,du,rc,(f,iv,ct,un,wk,en,mo,we,yd,md,dy,ho,mi,se,po,()),da,ex,())→cd=1):=by
   intro l hl hlb hok;unfold locE;by_cases c:((locL l da ex e).length:Int)>4096
   ·rw[if_pos c];exact⟨_,_,rfl,fun _=>rfl,fun q=>by omega,fun q=>absurd hM0 q⟩
   ·rw[if_neg c];exact⟨_,_,rfl,fun q=>absurd rfl q,fun _=>⟨hM0,by unfold allL;rw[←hlb],by omega,hok⟩,fun q=>absurd hM0 q⟩
  cases rc with
  | false=>
   rw[cond_false,(mD1 z st du false f iv ct un wk en mo we yd md dy ho mi se po da ex e hrx (by omega) [st] (by simp) (by omega)).2];exact fin [st] (by simp) (by unfold nT;rw[if_neg (by simp)]) fun q=>by cases q
  | true=>
   obtain⟨L,cd,h1,h2,h3,_⟩:=mN1 (f,iv,ct,un,wk,en,mo,we,yd,md,dy,ho,mi,se,po,()) s1 st e 4096 (by omega) (by omega);rw[cond_true,h1];simp only[hZ1];by_cases c:cd=0
   ·obtain⟨_,g2,g3,g4⟩:=h3 c;rw[dp c,mZ1,cond_false,(mD1 z st du true f iv ct un wk en mo we yd md dy ho mi se po da ex e hrx (by omega) L (by omega) (by omega)).1];obtain⟨L',cd',q1,q2,q3,q4⟩:=fin L (by omega) (by unfold nT;rw[if_pos rfl];exact g3) fun _=>g2
    exact⟨L',cd',q1,q2,fun q=>⟨(q3 q).1,(q3 q).2.1,(q3 q).2.2.1,fun _=>(q3 q).2.2.2 rfl⟩,q4⟩
   ·rw[dn c,aA2,cond_true];exact⟨_,_,rfl,fun _=>rfl,fun q=>absurd q c,fun q=>absurd hM0 q⟩
 ·have hb1:b=false:=by
   cases b with
   | true=>exact absurd (hb2.1 rfl) hM
   | false=>rfl
  rw[jC.f_eq,hb,hb1];exact⟨[],1,rfl,fun _=>rfl,fun q=>by omega,fun _=>rfl⟩
theorem vK1 {m:Mt} (hM:mayM m) {e x:Int} (h:x∈nT m e∨x∈m.2.2.2.2.2.1): -62104060800≤x∧(x<253370764800∨x<e):=by
 obtain⟨m1,m2,m3,m4,m5,m6,m7,m8,m9⟩:=hM;unfold innP at m3;rcases h with h | h
 ·unfold nT at h;split at h
  ·have:=aF1 h;omega
  ·rw[iA2]at h;omega
 ·have:=(nQ m6).2.2 x h;unfold innP at this;omega
noncomputable def utcF (Z:Zn) (t:Int):Int:=((tC.f Z t).getD (0,())).1
theorem yP (Z:Zn) (hz:rH Z) (hM:gC.f Z=some (true,())) (t:Int) (ht: -62104060800≤t∧t<253370764800):tC.f Z t=some (utcF Z t,())∧t-64800≤utcF Z t∧utcF Z t≤t+64800:=by obtain⟨Y,m,d,_,h1,h2,h3⟩:=fC1 Z hz hM t ht;unfold utcF;rw[h1];exact⟨rfl,h2,h3⟩
def SpOK (m:Mt) (zs:List Zn) (hi:Int) (S:List Sp):Prop:=mayM m∧0≤m.1∧m.1<(zs.length:Int)∧rH (zs.getD m.1.toNat zZ)∧gC.f (zs.getD m.1.toNat zZ)=some (true,()) ∧ -62072524800≤hi∧hi<253339228800 ∧
   jC.f m (hi+172800)=some (allL m (hi+172800),0,())∧(allL m (hi+172800)).length≤4096∧okU (zs.getD m.1.toNat zZ) (utcF (zs.getD m.1.toNat zZ)) (allL m (hi+172800)) ∧
   ∃r:List Sp,r.Perm (spF (utcF (zs.getD m.1.toNat zZ)) m.2.2.1 hi (allL m (hi+172800)))∧r.Pairwise (fun x y=>x.1≤y.1)∧S=r.foldl push []
theorem sN (m:Mt) (hs:iB1 m) (zs:List Zn) (hzs:∀z∈zs,z.2.1.length≤400) (hi:Int):∃S cd,jB.f m zs hi=some (S,cd,())∧(¬cd=0→S=[]) ∧
  (cd=0→SpOK m zs hi S):=by
 have stop:∃S cd,jB.l1 zs hi true m=some (S,cd,())∧(¬cd=0→S=[])∧cd=1:=⟨[],1,by rw[jB.l1_eq,cond_true],fun _=>rfl,rfl⟩
 have bad:∀{P:List Sp→Prop},∃S cd,jB.l1 zs hi true m=some (S,cd,())∧(¬cd=0→S=[])∧(cd=0→P S):=fun {P}=>by obtain⟨S,cd,h1,h2,h3⟩:=stop;exact⟨S,cd,h1,h2,fun q=>by omega⟩
 obtain⟨b,hb,hb2⟩:=jV1 m hs;rw[jB.f_eq,hb];simp only[hZ1]
 cases b with
 | false=>rw[aA2,cond_true];exact bad
 | true=>
 have hM:=hb2.1 rfl;have hM0:=hM;obtain⟨m1,m2,m3,m4,m5,m6,m7,m8,m9⟩:=hM;rw[mZ1,cond_false];by_cases c1:m.1≥(zs.length:Int)
 ·rw[dp c1,cond_true];exact bad
 rw[dn c1,cond_false,dp m1,cond_true,dp (by omega),cond_true];have hzin:zs.getD m.1.toNat zZ∈zs:=qK zZ (by omega);obtain⟨d,hd,hd2⟩:=bN1 (zs.getD m.1.toNat zZ) (by have:=hzs _ hzin;omega);have hd':gC.f (zs.getD m.1.toNat (0,[],[],0,()))=some (d,()):=hd;rw[hd'];simp only[hZ1]
 cases d with
 | false=>rw[aA2,cond_true];exact bad
 | true=>
 have hz:=hd2.1 rfl;rw[mZ1,cond_false,hV1];simp only[hZ1];by_cases c2:hi < -62072524800
 ·rw[dp c2,cond_true];exact bad
 rw[dn c2,cond_false,pW1];simp only[hZ1];by_cases c3:hi≥253339228800
 ·rw[dp c3];exact bad
 rw[dn c3,jB.l1_eq,cond_false,wr (by omega) (by omega)];obtain⟨L,cd,h1,h2,h3,_⟩:=kL1 m hs (hi+172800);rw[h1];simp only[hZ1];by_cases c:cd=0
 ·obtain⟨_,g2,g3,_⟩:=h3 c;subst c;rw[dp rfl,mZ1,cond_false];subst g2
  have hU:okU (zs.getD m.1.toNat zZ) (utcF (zs.getD m.1.toNat zZ)) (allL m (hi+172800)):=fun t ht=>by have hm:=tN.1 ht;have hb:=vK1 hM0 hm.1;have hu:=yP _ hz hd t ⟨hb.1,by omega⟩;exact⟨hu.1,by omega,by omega⟩
  obtain⟨r,r1,r2,r3⟩:=gZ zs hi (allL m (hi+172800)) (utcF (zs.getD m.1.toNat zZ)) m ⟨m1,by omega⟩ (by omega) ⟨by omega,m5⟩ hU;exact⟨_,_,r3,fun q=>absurd rfl q,fun _=>⟨hM0,m1,by omega,hz,hd,by omega,by omega,h1,g3,hU,r,r1,r2,rfl⟩⟩
 ·rw[dn c,aA2,cond_true];exact⟨_,_,rfl,fun _=>rfl,fun q=>absurd q c⟩
theorem aU1 (zs:List Zn) (hl:zs.length≤9223372036854775807):∀(k i:Nat),30-i=k→i≤30→i≤zs.length → ∃b,uA.l1 zs (i:Int)=some (b,())∧(b=true→zs.length≤30 ∧ ∀j,i≤j→j<zs.length→(zs.getD j zZ).2.1.length≤400):=by
 have fin:∀i:Nat,(zs.length≤i∨i=30) → ∃b,uA.l2 zs (i:Int) false=some (b,())∧(b=true→zs.length≤30 ∧ ∀j,i≤j→j<zs.length→(zs.getD j zZ).2.1.length≤400):=fun i h=>by rw[uA.l2_eq,cond_false,uA.l3_eq];refine⟨_,rfl,fun q=>?_⟩;rw[decide_eq_true_eq]at q;exact⟨by omega,fun j h1 h2=>by omega⟩
 intro k
 induction k with
 | zero=>
  intro i hk hi hiz;have e:i=30:=by omega
  rw[uA.l1_eq];by_cases c:(i:Int)<(zs.length:Int)
  ·rw[dp c,cond_true,dn (by omega)];exact fin i (.inr e)
  ·rw[dn c,cond_false];exact fin i (.inl (by omega))
 | succ k ih=>
  intro i hk hi hiz;rw[uA.l1_eq];by_cases c:(i:Int)<(zs.length:Int)
  ·rw[dp c,cond_true,dp (by omega),uA.l2_eq,cond_true];have hf:wF.f (zs.getD i zZ)=some (decide ((zs.getD i zZ).2.1.length≤400∧(zs.getD i zZ).2.2.1.length≤400),()):=by
    rw[wF.f_eq];by_cases a:((zs.getD i zZ).2.1.length:Int)≤400
    ·rw[dp a,cond_true]
     congr 2
     exact decide_eq_decide.2 (by omega)
    ·rw[dn a,cond_false,dn (by omega)]
   simp(disch:=omega)only[ss,hf];by_cases a:(zs.getD i zZ).2.1.length≤400∧(zs.getD i zZ).2.2.1.length≤400
   ·rw[dp a,mZ1,cond_false];obtain⟨b,h1,h2⟩:=ih (i+1) (by omega) (by omega) (by omega);refine⟨b,h1,fun q=>⟨(h2 q).1,fun j h3 h4=>?_⟩⟩;by_cases e:j=i
    ·subst e;exact a.1
    ·exact(h2 q).2 j (by omega) h4
   ·rw[dn a,aA2,cond_true];exact⟨false,rfl,fun q=>by cases q⟩
  ·rw[dn c,cond_false];exact fin i (.inl (by omega))
theorem fewz (zs:List Zn) (hl:zs.length≤9223372036854775807):∃b,uA.f zs=some (b,())∧(b=true→zs.length≤30 ∧ ∀z∈zs,z.2.1.length≤400):=by obtain⟨b,h1,h2⟩:=aU1 zs hl _ 0 rfl (oZ1 _) (oZ1 _);rw[uA.f_eq];refine⟨b,h1,fun q=>⟨(h2 q).1,fun z hz=>?_⟩⟩;obtain⟨j,hj,rfl⟩:=zB2 hz;have:=(h2 q).2 j (oZ1 _) hj;rwa[kZ1,qZ1 hj]at this
theorem uI1 (m:Mt) (hs:iB1 m) (e:Int):∃b,aC.f m e=some (b,()):=by
 have l1t:aC.l1 e true m=some (true,()):=by rw[aC.l1_eq,cond_true]
 rw[aC.f_eq]
 cases m.2.2.2.1 with
 | false=>exact⟨_,l1t⟩
 | true=>
  obtain⟨b,hb⟩:=rQ m.2.2.2.2.1 hs.1;have hv:bA.f m.2.2.2.2.1=some (b,()):=by rw[←cE1 _ hs.1];exact hb
  rw[mZ1,cond_false,hv];simp only[hZ1]
  cases b with
  | false=>exact⟨_,l1t⟩
  | true=>
   rw[mZ1,cond_false,(qN m.2.1).2];simp only[hZ1];by_cases c:inT m.2.1
   ·rw[dp c,mZ1,cond_false,(qN e).2];simp only[hZ1];by_cases c2:inT e
    ·rw[dp c2,mZ1,aC.l1_eq,cond_false];obtain⟨k,hk⟩:=zK1 m.2.2.2.2.1 m.2.1 (w6 (w6 (Int.tdiv (w6 (e-m.2.1)) 86400)+3)) hs.1;rw[hk];exact⟨_,rfl⟩
    ·rw[dn c2];exact⟨_,l1t⟩
   ·rw[dn c];exact⟨_,l1t⟩
theorem jX (P:Sp→Prop) {out:List Sp} {s:Sp} (h1:∀x∈out,P x) (h2:P s) (h3:∀p:Sp,P p→P (p.1,max p.2.1 s.2.1,())):∀x∈push out s,P x:=by
 rcases eH out with rfl | ⟨o,p,rfl⟩
 ·rw[fN];intro x hx;rw[iA2]at hx;rw[hx];exact h2
 ·rw[cI,xR];intro x hx;split at hx
  ·rcases sZ1.1 hx with hx | hx
   ·exact h1 x (vZ1 _ hx)
   ·rw[iA2]at hx;rw[hx];exact h3 p (h1 p (by simp))
  ·rcases sZ1.1 hx with hx | hx
   ·exact h1 x hx
   ·rw[iA2]at hx;rw[hx];exact h2
theorem aE1 (P:Sp→Prop) (h3:∀(s p:Sp),P p→P (p.1,max p.2.1 s.2.1,())):∀(l out:List Sp),(∀x∈out,P x)→(∀x∈l,P x) → ∀x∈l.foldl push out,P x
 | [],out,h1,_=>h1
 | s::l,out,h1,h2=>by rw[vB2];exact aE1 P h3 l (push out s) (jX P h1 (h2 s (by simp)) fun p hp=>h3 s p hp) fun x hx=>h2 x (jZ1 _ hx)
def has (out:List Sp) (x:Sp):Prop:=∃s∈out,s.1≤x.1∧x.2.1≤s.2.1
theorem fQ1 {out:List Sp} {s x:Sp} (h:has out x):has (push out s) x:=by
 obtain⟨a,ha,h1,h2⟩:=h;rcases eH out with rfl | ⟨o,p,rfl⟩
 ·cases ha
 ·rw[cI,xR];split
  ·rcases sZ1.1 ha with ha | ha
   ·exact⟨a,vZ1 _ ha,h1,h2⟩
   ·rw[iA2]at ha;subst ha;exact⟨(a.1,max a.2.1 s.2.1,()),by simp,h1,by show x.2.1≤max a.2.1 s.2.1;omega⟩
  ·exact⟨a,vZ1 _ ha,h1,h2⟩
theorem zO1 {out:List Sp} {s:Sp} (h:∀x∈out,x.1≤s.1):has (push out s) s:=by
 rcases eH out with rfl | ⟨o,p,rfl⟩
 ·exact⟨s,by rw[fN];simp,iB2 _,iB2 _⟩
 ·have hp:=h p (by simp);rw[cI,xR];split
  ·exact⟨(p.1,max p.2.1 s.2.1,()),by simp,hp,by show s.2.1≤max p.2.1 s.2.1;omega⟩
  ·exact⟨s,by simp,iB2 _,iB2 _⟩
theorem sQ1 {out:List Sp} {s:Sp} {v:Int} (h:∀x∈out,x.1≤v) (hs:s.1≤v):∀x∈push out s,x.1≤v:=jX (fun x=>x.1≤v) h hs fun p hp=>hp
theorem pF1 :∀(l out:List Sp),l.Pairwise (fun a b=>a.1≤b.1)→(∀s∈l,∀a∈out,a.1≤s.1)→(∀x,has out x→has (l.foldl push out) x) ∧ ∀x∈l,has (l.foldl push out) x
 | [],out,_,_=>⟨fun _ h=>h,fun x hx=>by cases hx⟩
 | s::l,out,h1,h2=>by
  rw[tA2]at h1;have ih:=pF1 l (push out s) h1.2 fun t ht a ha=>sQ1 (fun x hx=>h2 t (jZ1 _ ht) x hx) (h1.1 t ht) a ha
  rw[vB2];refine⟨fun x h=>ih.1 x (fQ1 h),fun x hx=>?_⟩;rcases pZ1.1 hx with e | hx
  ·subst e;exact ih.1 x (zO1 fun a ha=>h2 x (by simp) a ha)
  ·exact ih.2 x hx
section
variable (zs : List Zn) (hi : Int) (S : List Sp) (L : List Int) (m : Mt) (U : Int → Int)
theorem gQ1 (hz:0≤m.1∧m.1<(zs.length:Int)) (hL:L.length≤100000) (hU:okU (zs.getD m.1.toNat zZ) U L):∀(k i:Nat),min L.length 500-i=k→i≤min L.length 500 →
  aA.l3 zs hi S L (i:Int) m ((L.take i).map U)=aA.l6 hi S L 0 m ((L.take 500).map U):=by
 have hlim:yC=17179869184:=rfl
 have fin:∀i:Nat,i=min L.length 500→aA.l4 zs hi S L (i:Int) false m ((L.take i).map U)=aA.l6 hi S L 0 m ((L.take 500).map U):=fun i hi'=>by
  have e:L.take i=L.take 500:=by
   by_cases c:L.length≤500
   ·rw[zZ1 (by omega),zZ1 c]
   ·rw[show i=500 by omega]
  rw[aA.l4_eq,cond_false,aA.l5_eq,e]
 intro k
 induction k with
 | zero=>
  intro i hk hi';have e:i=min L.length 500:=by omega
  rw[aA.l3_eq];by_cases c:(i:Int)<(L.length:Int)
  ·rw[dp c,cond_true,dn (by omega)];exact fin i e
  ·rw[dn c,cond_false];exact fin i e
 | succ k ih=>
  intro i hk hi';have hlt:i<L.length:=by omega
  have hu:=(hU (L.getD i 0) (qK 0 hlt)).1;have ht:(L.take (i+1)).map U=(L.take i).map U++[U (L.getD i 0)]:=by rw[zG 0 hlt,dA2];rfl
  have hlen:((L.take i).map U).length=i:=by rw[wA2,wZ1];omega
  have:=ih (i+1) (by omega) (by omega);rw[ht]at this;rw[aA.l3_eq,dp (by omega),cond_true,dp (by omega),aA.l4_eq];simp(disch:=omega)only[ss,hu,hlen,sA2,hlim];exact this
theorem qP1 (A:List Int) (hA:A.length≤100000) (hS:S.length≤100000) (hL:L.length≤100000) (hn:nrm S) (hd:∀s∈S,(m.2.2.1≤s.2.1-s.1∧s.1<hi)∧(L.length≤500→s.1∈A)∧(-1000000000000≤s.1∧s.1≤1000000000000) ∧ -1000000000000≤s.2.1∧s.2.1≤1000000000000):
  ∀(k i:Nat),S.length-i=k→i≤S.length→aA.l6 hi S L (i:Int) m A=aA.l8 hi S 0 m A:=by
 intro k
 induction k with
 | zero=>
  intro i hk hi';have e:i=S.length:=by omega
  subst e;rw[aA.l6_eq];simp(disch:=omega)only[ss]
 | succ k ih=>
  intro i hk hi';have hlt:i<S.length:=by omega
  obtain⟨⟨d1,d2⟩,d3,d4,d5⟩:=hd _ (qK zSh hlt);have hw:w6 ((S.getD i zSh).2.1-(S.getD i zSh).1)=(S.getD i zSh).2.1-(S.getD i zSh).1:=wr (by omega) (by omega);have next:aA.l7 hi S L (i:Int) false m A=aA.l8 hi S 0 m A:=by rw[aA.l7_eq,cond_false];simp(disch:=omega)only[ss];exact ih (i+1) (by omega) (by omega)
  have tail:(bif decide ((L.length:Int)≤500)then((oD.f A (S.getD i zSh).1).bind fun t=>aA.l7 hi S L (i:Int) (!t.1) m A)else(aA.l7 hi S L (i:Int) false m A))=aA.l8 hi S 0 m A:=by
   by_cases c:(L.length:Int)≤500
   ·have hh:=tN1 A (S.getD i zSh).1 (by omega);rw[dp (d3 (by omega))]at hh;simp(disch:=omega)only[ss,hh];exact next
   ·simp(disch:=omega)only[ss];exact next
  rw[aA.l6_eq,show((0,0,()):Sp)=zSh from rfl];by_cases c0:i=0
  ·subst c0;simp(disch:=omega)only[dp,dn,cond_true,cond_false,eB2,hw];exact tail
  ·have hpw:(S.getD (i-1) zSh).2.1<(S.getD i zSh).1:=by have:=mC2.1 hn.1 (i-1) i (by omega) hlt (by omega);rw[kZ1,kZ1,qZ1 (by omega),qZ1 hlt];exact this
   have hw1:(w6 ((i:Int)-1)).toNat=i-1:=by rw[wr (by omega) (by omega)];omega
   have hw2:w6 ((i:Int)-1)=(i:Int)-1:=wr (by omega) (by omega);rw[hw1,hw2];simp(disch:=omega)only[dp,dn,cond_true,cond_false,eB2,hw];exact tail
theorem kQ1 (A:List Int) (j:Nat) (hj:j<A.length) (hA:A.length≤100000) (hS:S.length≤100000) (hd:0≤m.2.2.1∧m.2.2.1≤2678400) (hb: -1000000000000≤A.getD j 0∧A.getD j 0≤1000000000000):∀(k i:Nat) (b:Bool),S.length-i=k→i≤S.length→(b=false → ∃q,i≤q∧q<S.length∧(S.getD q zSh).1≤A.getD j 0∧A.getD j 0+m.2.2.1≤(S.getD q zSh).2.1) →
  aA.l9 hi S (j:Int) b (i:Int) m A=aA.l8 hi S ((j+1:Nat):Int) m A:=by
 intro k
 induction k with
 | zero=>
  intro i b hk hi' hq;have hb1:b=true:=by
   cases b with
   | true=>rfl
   | false=>obtain⟨q,h1,h2,_⟩:=hq rfl;omega
  subst hb1;have e:i=S.length:=by omega
  subst e;rw[aA.l9_eq];simp(disch:=omega)only[ss];rfl
 | succ k ih=>
  intro i b hk hi' hq;have hlt:i<S.length:=by omega
  rw[aA.l9_eq,dp (by omega),cond_true]
  cases b with
  | true=>
   simp(disch:=omega)only[ss];exact ih (i+1) true (by omega) (by omega) fun q=>by cases q
  | false=>
   obtain⟨q,q1,q2,q3,q4⟩:=hq rfl;have hw:w6 (A.getD j 0+m.2.2.1)=A.getD j 0+m.2.2.1:=wr (by omega) (by omega);rw[cond_false];by_cases c1:(S.getD i zSh).1≤A.getD j 0
   ·simp(disch:=omega)only[ss,hw];by_cases c2:A.getD j 0+m.2.2.1≤(S.getD i zSh).2.1
    ·rw[dp c2];exact ih (i+1) true (by omega) (by omega) fun q=>by cases q
    ·rw[dn c2];refine ih (i+1) false (by omega) (by omega) fun _=>⟨q,?_,q2,q3,q4⟩
     by_cases e:q=i
     ·subst e;exact absurd q4 c2
     ·omega
   ·simp(disch:=omega)only[ss];refine ih (i+1) false (by omega) (by omega) fun _=>⟨q,?_,q2,q3,q4⟩
    by_cases e:q=i
    ·subst e;exact absurd q3 c1
    ·omega
theorem aP1 (A:List Int) (hA:A.length≤100000) (hS:S.length≤100000) (hd:0≤m.2.2.1∧m.2.2.1≤2678400) (hb:∀u∈A,(-1000000000000≤u∧u≤1000000000000)∧(u<hi → ∃s∈S,s.1≤u∧u+m.2.2.1≤s.2.1)):∀(k j:Nat),A.length-j=k→j≤A.length→aA.l8 hi S (j:Int) m A=some (true,()):=by
 intro k
 induction k with
 | zero=>
  intro j hk hj;have e:j=A.length:=by omega
  subst e;rw[aA.l8_eq,aE];simp(disch:=omega)only[ss]
 | succ k ih=>
  intro j hk hj;have hlt:j<A.length:=by omega
  obtain⟨b1,b2⟩:=hb _ (qK 0 hlt)
  have h9:=kQ1 hi S m A j hlt hA hS hd b1 _ 0 (decide (A.getD j 0≥hi)) rfl (oZ1 _) fun q=>by
   rw[decide_eq_false_iff_not]at q;have hq:A.getD j 0<hi:=by omega
   obtain⟨s,hs,s1,s2⟩:=b2 hq;obtain⟨i,hi',rfl⟩:=zB2 hs;have e:S.getD i zSh=S[i]:=by rw[kZ1,qZ1 hi'];rfl
   exact⟨i,oZ1 _,hi',by rw[e];exact s1,by rw[e];exact s2⟩
  clear b2;rw[yZ1]at h9;rw[aA.l8_eq];simp(disch:=omega)only[ss];exact h9.trans (ih (j+1) (by omega) (by omega))
end
theorem wT (m:Mt) (zs:List Zn) (hi:Int) (ok:(c4).par.T.Ok (m,zs,hi,())):aA.f m zs hi=some (true,()):=by
 have l1t:aA.l1 zs hi true m=some (true,()):=by rw[aA.l1_eq,cond_true,aE];rfl
 have hzl:zs.length≤9223372036854775807:=ok.2.1.1;obtain⟨b,hb,hsm⟩:=fX1 m;obtain⟨d,hd,hzs⟩:=fewz zs hzl;rw[aA.f_eq,aE,hb];simp only[hZ1,mZ1,cond_false]
 cases b with
 | false=>rw[aA2,cond_true,l1t]
 | true=>
 rw[mZ1,cond_false,hd];simp only[hZ1]
 cases d with
 | false=>rw[aA2,cond_true,l1t]
 | true=>
 have hs:=hsm rfl;obtain⟨g,hg⟩:=uI1 m hs hi;rw[mZ1,cond_false,hg];simp only[hZ1]
 cases g with
 | false=>rw[aA2,l1t]
 | true=>
 rw[mZ1,aA.l1_eq,cond_false];obtain⟨S,cd,h1,h2,h3⟩:=sN m hs zs (fun z hz=>(hzs rfl).2 z hz) hi;rw[h1];simp only[hZ1];by_cases c:cd=0
 ·obtain⟨hM,z0,z1,hz,hzM,hi1,hi2,hL,hLl,hU,r,r1,r2,rfl⟩:=h3 c;subst c;rw[dp rfl,mZ1,cond_false,dn (by omega),aA.l2_eq,cond_false,wr (by omega) (by omega),hL];simp only[hZ1,decide_true,mZ1,cond_false];obtain⟨m1,m2,m3,m4,m5,m6,m7,m8,m9⟩:=hM;obtain⟨L,hLe⟩:∃L,L=allL m (hi+172800):=⟨_,rfl⟩
  rw[←hLe]at hLl hU r1 ⊢;have hrl:=r1.length_eq;have hsl:=lC1 (utcF (zs.getD m.1.toNat zZ)) m.2.2.1 hi L;have hfl:=pY r [];rw[gB2]at hfl;have hmem:∀s∈r,∃t,t∈L∧utcF (zs.getD m.1.toNat zZ) t<hi∧s=(utcF (zs.getD m.1.toNat zZ) t,utcF (zs.getD m.1.toNat zZ) t+m.2.2.1,()):=fun s h=>dY.1 (r1.mem_iff.1 h)
  have hne:∀s∈r,s.1<s.2.1:=fun s h=>by obtain⟨t,_,_,rfl⟩:=hmem s h;dsimp only;omega
  obtain⟨hn,_⟩:=gF1 r [] hne r2 ⟨List.Pairwise.nil,fun s h=>by cases h⟩ fun s _ a h=>by cases h
  have hall:=aE1 (fun s=>(m.2.2.1≤s.2.1-s.1∧s.1<hi)∧(L.length≤500→s.1∈(L.take 500).map (utcF (zs.getD m.1.toNat zZ)))∧(-1000000000000≤s.1∧s.1≤1000000000000) ∧ -1000000000000≤s.2.1) (fun s p hp=>by
   obtain⟨⟨p1,p2⟩,p3,p4,p5⟩:=hp
   exact⟨⟨by dsimp only;omega,p2⟩,p3,p4,by dsimp only;omega⟩) r [] (fun x h=>by cases h) fun s h=>by
   obtain⟨t,ht,h5,rfl⟩:=hmem s h;have hu:=(hU t ht).2;refine⟨⟨by dsimp only;omega,h5⟩,fun q=>?_,by dsimp only;omega,by dsimp only;omega⟩;rw[zZ1 q];exact bA2.2 ⟨t,ht,rfl⟩
  have htop:∀s∈r.foldl push [],s.2.1≤1000000000000:=by
   have key:∀(l out:List Sp),(∀x∈out,x.2.1≤1000000000000)→(∀x∈l,x.2.1≤1000000000000) → ∀x∈l.foldl push out,x.2.1≤1000000000000:=by
    intro l
    induction l with
    | nil=>intro out h1 _;exact h1
    | cons s l ih=>
     intro out h1 h2;rw[vB2];have hs2:=h2 s (by simp);exact ih (push out s) (jX (fun x=>x.2.1≤1000000000000) h1 hs2 fun p hp=>by show max p.2.1 s.2.1≤_;omega) fun x hx=>h2 x (jZ1 _ hx)
   exact key r [] (fun x h=>by cases h) fun s h=>by obtain⟨t,ht,_,rfl⟩:=hmem s h;have hu:=(hU t ht).2;dsimp only;omega
  have e3:=gQ1 zs hi (r.foldl push []) L m (utcF (zs.getD m.1.toNat zZ)) ⟨z0,z1⟩ (by omega) hU _ 0 rfl (oZ1 _);have hal:((L.take 500).map (utcF (zs.getD m.1.toNat zZ))).length≤100000:=by rw[wA2,wZ1];omega
  have e6:=qP1 hi (r.foldl push []) L m ((L.take 500).map (utcF (zs.getD m.1.toNat zZ))) hal (by omega) (by omega) hn (fun s h=>by
   obtain⟨a1,a2,a3,a4⟩:=hall s h
   exact⟨a1,a2,a3,a4,htop s h⟩) _ 0 rfl (oZ1 _)
  have hhas:=(pF1 r [] r2 fun s _ a h=>by cases h).2
  have e8:=aP1 hi (r.foldl push []) m ((L.take 500).map (utcF (zs.getD m.1.toNat zZ))) hal (by omega) ⟨by omega,m5⟩ (fun u hu=>by
   obtain⟨t,ht,rfl⟩:=bA2.1 hu;have ht:=pC2 ht;have hb:=(hU t ht).2;refine⟨by omega,fun q=>?_⟩
   exact hhas (utcF (zs.getD m.1.toNat zZ) t,utcF (zs.getD m.1.toNat zZ) t+m.2.2.1,()) (r1.mem_iff.2 (dY.2 ⟨t,ht,q,rfl⟩))) _ 0 rfl (oZ1 _)
  exact e3.trans (e6.trans e8)
 ·have hS:=h2 c;subst hS;rw[dn c,aA2,cond_true,aA.l2_eq,cond_true,aE];rfl
end Go.GV.YtidgapgbnlcjgaaGreatDoor
