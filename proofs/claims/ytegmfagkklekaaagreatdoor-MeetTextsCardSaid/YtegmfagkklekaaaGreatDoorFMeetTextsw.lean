/-
Part of the words that MeetTexts is proved with: no statement of its own, no conditions.
-/
import Derived.Test.YtegmfagkklekaaaGreatDoorFMeetTextsv
set_option linter.unusedVariables false
set_option linter.unusedSimpArgs false
namespace Go.GV.YtegmfagkklekaaaGreatDoor
open Go.Proofs
theorem dV :∀(raw acc:List (List UInt8)),totF (fN acc raw)≤totF acc+totF raw∧(fN acc raw).length≤acc.length+raw.length
 | [],acc=>⟨by simp[fN,totF],by simp[fN]⟩
 | s::r,acc=>by have h1:=dV r (glue acc (eG s));have h2:=wC1 acc (eG s);have h3:=oT s;rw[yL1,nJ,zH2];omega
theorem qL1 (l:List UInt8):Told (lA.f (I l)):=by
 rw[lA.f_eq];rcases cN l with h | ⟨h,k,h1,h2,h3⟩ | ⟨h,h1⟩
 ·rw[tO h];show Told (some (zM,0,3,()));exact⟨_,_,_,rfl,(fun e=>by omega),fun _=>rfl⟩
 ·rw[qR h h1 h2 h3];show Told (some (zM,(k:Int),4,()));exact⟨_,_,_,rfl,(fun e=>by omega),fun _=>rfl⟩
 ·rw[iM h h1];obtain⟨X,hX⟩:∃X,X=fN [] (zF l):=⟨_,rfl⟩
  rw[←hX];have hp:=dR l;have hl:=dV (zF l) [];rw[←hX]at hl;have h0:totF ([]:List (List UInt8))=0:=rfl;have hn:([]:List (List UInt8)).length=0:=rfl;have hs:∀s∈X,s.length≤4096:=by intro s hs;have:=kT hs;have:0<X.length:=List.length_pos_of_mem hs;omega
  simp(disch:=omega)only[ss];have hm:(X.map mkS).length=X.length:=tH2 ..;by_cases c:0<X.length
  ·have hg:(X.map mkS).getD 0 ByteArray.empty=mkS (X.getD 0 []):=by rw[qH2,mJ2,qH2,aI2 c];rfl
   rw[jI1 (X.map mkS) (X.getD 0 []) (by omega) hg];cases pf F0 (X.getD 0 [])with
   | false=>exact cQ 0
   | true=>
    obtain⟨b,m',g1,g2⟩:=iR zM 0 ((X.getD 0 []).drop F0.length) (by omega) (by have:=hs _ (iD [] c);rw[qI2];omega) ⟨xC1,uH2 _,uH2 _⟩;rw[eI2]at g1;rw[cond_true,g1];simp only[pH2];unfold QC
    cases b with
    | false=>exact cQ _
    | true=>exact oZ1 X (by omega) hs _ 1 1 m' rfl (by omega) (by omega) g2
  ·have:X=[]:=iI2 (by omega);subst this;rw[lA.l1_eq];exact⟨_,_,_,rfl,(fun e=>by omega),fun _=>rfl⟩
theorem eH1 (a b:Mt) (ha:jG a):oE (pN.f a b) (a=b):=by
 obtain⟨z,st,du,rc,r,da,ex,⟨⟩⟩:=a;obtain⟨z',st',du',rc',r',da',ex',⟨⟩⟩:=b;obtain⟨h1,h2,h3⟩:=ha;dsimp only at h1 h2 h3;have no:∀{p:Prop},¬p→oE (some (false,())) p:=fun h=>⟨false,rfl,by simp[h]⟩
 obtain⟨u,hu,eu⟩:=dZ r r' h1;rw[pN.f_eq];dsimp only;by_cases c1:z=z'
 ·rw[dp c1,cond_true];by_cases c2:st=st'
  ·rw[dp c2,cond_true];by_cases c3:du=du'
   ·rw[dp c3,cond_true];by_cases c4:rc=rc'
    ·subst c4;rw[beq_self_eq_true,cond_true,hu];simp only[pH2]
     cases u with
     | false=>
      rw[cond_false]
      exact no fun e=>by have:=eu.2 (by injection e with _ e;injection e with _ e;injection e with _ e;injection e with _ e;injection e);cases this
     | true=>
      rw[cond_true,eqI2 da da' h2];simp only[pH2];by_cases c5:da=da'
      ·rw[dp c5,cond_true,eqI2 ex ex' h3];refine⟨_,rfl,?_⟩;rw[decide_eq_true_eq,eu.1 rfl,c1,c2,c3,c5];exact⟨fun e=>by rw[e],fun e=>by injection e with _ e;injection e with _ e;injection e with _ e;injection e with _ e;injection e with _ e;injection e with _ e;injection e⟩
      ·rw[dn c5,cond_false];exact no fun e=>c5 (by injection e with _ e;injection e with _ e;injection e with _ e;injection e with _ e;injection e with _ e;injection e)
    ·rw[show(rc==rc')=false from by cases rc <;> cases rc' <;> first | rfl | exact absurd rfl c4,cond_false];exact no fun e=>c4 (by injection e with _ e;injection e with _ e;injection e with _ e;injection e)
   ·rw[dn c3,cond_false];exact no fun e=>c3 (by injection e with _ e;injection e with _ e;injection e)
  ·rw[dn c2,cond_false];exact no fun e=>c2 (by injection e with _ e;injection e)
 ·rw[dn c1,cond_false];exact no fun e=>c1 (by injection e)
theorem yE1 (m:Mt) (hs:jG m) (hM:¬mayM m):mC.f m=some ([],1,()):=by
 obtain⟨b,hb,hb2⟩:=nQ1 m hs
 cases b with
 | true=>exact absurd (hb2.1 rfl) hM
 | false=>
  rw[mC.f_eq,hb];rfl
theorem pA1 (b:Bool) (x:List UInt8) (n:Nat) (h:b=true→x.length≤n):totF (optL b x)≤n∧(optL b x).length≤1:=by
 cases b with
 | false=>exact⟨uH2 _,by unfold optL;simp⟩
 | true=>
  have:=h rfl;unfold optL;simp[totF];exact this
theorem jF1 (m:Mt) (hs:jG m) (hM:mayM m):(yM m).length≤5∧totF (yM m)≤7000:=by
 obtain⟨z,st,du,rc,r,da,ex,⟨⟩⟩:=m;obtain⟨s1,s2,s3⟩:=hs;obtain⟨m1,m2,m3,m4,m5,m6,m7,m8,m9⟩:=hM;dsimp only at s1 s2 s3 m1 m2 m3 m4 m5 m6 m7 m8 m9;obtain⟨d1,d2,d3⟩:=yN m6;obtain⟨e1,e2,e3⟩:=yN m7;have u0:=(zN st (oI m3)).1;have ldt:=wH1 du.toNat (by omega);have lD:=(fI z.toNat).2 (by omega);have lda:=jM da d1 fun t ht=>oI (d3 t ht)
 have lex:=jM ex e1 fun t ht=>oI (e3 t ht)
 have lF0:F0.length=13:=rfl;have lF1:F1.length=9:=rfl;have lF2:F2.length=6:=rfl;have lF3:F3.length=6:=rfl;have lF4:F4.length=7:=rfl
 have q2:=pA1 rc (F2++jn 59 (pts r)) 4102 fun h=>by have:=(oV r s1 (m8 h)).2;rw[oH2];omega
 have q3:=pA1 (decide (0<da.length)) (F3++jn 44 (da.map utx)) 1106 fun h=>by rw[oH2];omega
 have q4:=pA1 (decide (0<ex.length)) (F4++jn 44 (ex.map utx)) 1107 fun h=>by rw[oH2];omega
 have q0:(F0++v0 (z,st,du,rc,r,da,ex,())).length≤40:=by unfold v0;rw[oH2,oH2,zH2];dsimp only;omega
 have q1:(F1++durT du.toNat).length≤69:=by rw[oH2];omega
 have e:yM (z,st,du,rc,r,da,ex,())=[F0++v0 (z,st,du,rc,r,da,ex,()),F1++durT du.toNat]++optL rc (F2++jn 59 (pts r))++optL (decide (0<da.length)) (F3++jn 44 (da.map utx))++optL (decide (0<ex.length)) (F4++jn 44 (ex.map utx)):=rfl;rw[e];generalize v0 (z,st,du,rc,r,da,ex,())=V at q0;generalize durT du.toNat=W at q1;have t2:totF [F0++V,F1++W]≤109:=by simp only[totF,uI2,aL2,List.sum_cons,List.sum_nil];omega
 have l2:[F0++V,F1++W].length=2:=rfl;rw[oH2,oH2,oH2,yI,yI,yI];omega
theorem lK1 (y m d h i s n:Int) (hd:iK1 n y m d) (h1:0≤h∧h≤23) (h2:0≤i∧i≤59) (h3:0≤s∧s≤59):iC.f y m d h i s=some (n*86400+3600*h+60*i+s,0,()):=by obtain⟨t,e,g1,g2⟩:=nD1 y m d h i s (by omega) (by omega) (by omega);rw[tH y m d h i s n hd h1 h2 h3]at g1;rw[g2];exact g1.symm
theorem dX (t:Int):oE (dH.f t) (innP t):=by
 have a:=lK1 2 1 1 0 0 0 (-718797) ⟨by decide,by decide⟩ (by omega) (by omega) (by omega);have b:=lK1 9998 12 31 23 59 59 2932531 ⟨by decide,by decide⟩ (by omega) (by omega) (by omega);rw[show(-718797:Int)*86400+3600*0+60*0+0 = -62104060800 by omega]at a;rw[show(2932531:Int)*86400+3600*23+60*59+59=253370764799 by omega]at b;unfold innP;rw[dH.f_eq,a,b];by_cases c:t ≥ -62104060800
 ·simp(disch:=omega)only[ss];exact⟨_,rfl,by rw[decide_eq_true_eq];omega⟩
 ·simp(disch:=omega)only[ss];exact⟨_,rfl,by simp;omega⟩
theorem zT1 (l:List Int) (hl:l.length≤1000000):∀(k i:Nat),l.length-i=k→i≤l.length →
  oE (wD.l1 l (i:Int)) ((∀j,i≤j→j<l.length→innP (l.getD j 0))∧(∀j,j<l.length→adjI l j)∧l.length≤64):=by
 intro k
 induction k with
 | zero=>
  intro i hk hil;obtain⟨b,hb,hi⟩:=lM l hl;rw[wD.l1_eq];by_cases c:(l.length:Int)≤64
  ·simp(disch:=omega)only[ss,hb];exact⟨b,rfl,hi.trans ⟨fun h=>⟨fun j h1 h2=>by omega,h,by omega⟩,fun h=>h.2.1⟩⟩
  ·simp(disch:=omega)only[ss];exact⟨false,rfl,by simp;intro _ _;omega⟩
 | succ k ih=>
  intro i hk hil;have hlt:i<l.length:=by omega
  obtain⟨b,hb,hi⟩:=dX (l.getD i 0);rw[wD.l1_eq];simp(disch:=omega)only[ss,hb]
  cases b with
  | false=>
   rw[zJ2,cond_true];exact⟨false,rfl,by simp;intro q;exact absurd (hi.2 (q i (yH2 _) hlt)) (by simp)⟩
  | true=>
   rw[cJ2,cond_false];refine(ih (i+1) (by omega) (by omega)).iff ⟨fun q=>⟨fun j h1 h2=>?_,q.2⟩,fun q=>⟨fun j h1 h2=>q.1 j (by omega) h2,q.2⟩⟩;by_cases e:j=i
   ·subst e;exact hi.1 rfl
   ·exact q.1 j (by omega) h2
theorem kV (l:List Int) (hl:l.length≤1000000):oE (wD.f l) (mP l):=by have:=zT1 l hl _ 0 rfl (uH2 _);rw[eI2]at this;rw[wD.f_eq];exact this.iff ⟨fun q=>⟨fun j hj=>⟨q.1 j (uH2 _) hj,q.2.1 j hj⟩,q.2.2⟩,fun q=>⟨fun j _ hj=>(q.1 j hj).1,fun j hj=>(q.1 j hj).2,q.2⟩⟩
theorem jT1 (m:Mt) (h:jG m):oE (vB.f m) (mayM m):=by
 obtain⟨z,st,du,rc,r,da,ex,⟨⟩⟩:=m;obtain⟨h1,h2,h3⟩:=h;dsimp only at h1 h2 h3
 have stop:¬mayM (z,st,du,rc,r,da,ex,())→oE (vB.l1 true (z,st,du,rc,r,da,ex,())) (mayM (z,st,du,rc,r,da,ex,())):=fun q=>by rw[vB.l1_eq,cond_true];exact⟨false,rfl,by simp[q]⟩
 obtain⟨b1,g1,k1⟩:=dX st;obtain⟨b2,g2,k2⟩:=kV da h2;obtain⟨b3,g3,k3⟩:=kV ex h3;unfold mayM at stop ⊢;dsimp only at stop ⊢;rw[vB.f_eq];dsimp only;by_cases c1:z<0
 ·rw[dp c1];exact stop fun q=>by omega
 rw[dn c1,cond_false];by_cases c2:z>15
 ·rw[dp c2];exact stop fun q=>by omega
 rw[dn c2,cond_false,g1]
 cases b1 with
 | false=>exact stop fun q=>by have:=k1.2 q.2.2.1;cases this
 | true=>
 simp(disch:=omega)only[ss];by_cases c3:du<1
 ·rw[dp c3];exact stop fun q=>by omega
 rw[dn c3,cond_false];by_cases c4:du>2678400
 ·rw[dp c4];exact stop fun q=>by omega
 rw[dn c4,cond_false,g2]
 cases b2 with
 | false=>exact stop fun q=>by have:=k2.2 q.2.2.2.2.2.1;cases this
 | true=>
 simp(disch:=omega)only[ss,g3]
 cases b3 with
 | false=>exact stop fun q=>by have:=k3.2 q.2.2.2.2.2.2.1;cases this
 | true=>
 rw[cJ2,vB.l1_eq,cond_false];dsimp only;have base:0≤z∧z<16∧innP st∧1≤du∧du≤2678400∧mP da∧mP ex:=⟨by omega,by omega,k1.1 rfl,by omega,by omega,k2.1 rfl,k3.1 rfl⟩
 obtain⟨i1,i2,i3,i4,i5,i6,i7⟩:=base
 cases rc with
 | true=>
  obtain⟨b,hb⟩:=vA1 r h1;have hv:bA.f r=some (b,()):=by rw[←kA1 r h1];exact hb
  rw[cond_true,hv];refine⟨b,rfl,fun e=>⟨i1,i2,i3,i4,i5,i6,i7,(fun _=>by rw[hb,e]),(fun e=>by cases e)⟩,fun q=>?_⟩;have:=q.2.2.2.2.2.2.2.1 rfl;rw[hb]at this;exact congrArg Prod.fst (sI2 this)
 | false=>
  obtain⟨b,hb,hq⟩:=mY r zR h1;have hb:sH.f r (0,0,0,0,0,false,[],[],[],[],[],[],[],[],[],())=some (b,()):=hb;rw[cond_false,hb];exact⟨b,rfl,fun e=>⟨i1,i2,i3,i4,i5,i6,i7,(fun e=>by cases e),fun _=>hq.1 e⟩,fun q=>hq.2 (q.2.2.2.2.2.2.2.2 rfl)⟩
theorem nV (a b:Mt) (ha:jG a):oE (rG.f a b) (a=b):=by
 obtain⟨z,st,du,rc,r,da,ex,⟨⟩⟩:=a;obtain⟨z',st',du',rc',r',da',ex',⟨⟩⟩:=b;obtain⟨h1,h2,h3⟩:=ha;dsimp only at h1 h2 h3;have no:∀{p:Prop},¬p→oE (some (false,())) p:=fun h=>⟨false,rfl,by simp[h]⟩
 obtain⟨u,hu,eu⟩:=mY r r' h1;rw[rG.f_eq];dsimp only;by_cases c1:z=z'
 ·rw[dp c1,cond_true];by_cases c2:st=st'
  ·rw[dp c2,cond_true];by_cases c3:du=du'
   ·rw[dp c3,cond_true];by_cases c4:rc=rc'
    ·subst c4;rw[beq_self_eq_true,cond_true,hu];simp only[pH2]
     cases u with
     | false=>
      rw[cond_false]
      exact no fun e=>by have:=eu.2 (by injection e with _ e;injection e with _ e;injection e with _ e;injection e with _ e;injection e);cases this
     | true=>
      rw[cond_true,vI2 da da' h2];simp only[pH2];by_cases c5:da=da'
      ·rw[dp c5,cond_true,vI2 ex ex' h3];refine⟨_,rfl,?_⟩;rw[decide_eq_true_eq,eu.1 rfl,c1,c2,c3,c5];exact⟨fun e=>by rw[e],fun e=>by injection e with _ e;injection e with _ e;injection e with _ e;injection e with _ e;injection e with _ e;injection e with _ e;injection e⟩
      ·rw[dn c5,cond_false];exact no fun e=>c5 (by injection e with _ e;injection e with _ e;injection e with _ e;injection e with _ e;injection e with _ e;injection e)
    ·rw[show(rc==rc')=false from by cases rc <;> cases rc' <;> first | rfl | exact absurd rfl c4,cond_false];exact no fun e=>c4 (by injection e with _ e;injection e with _ e;injection e with _ e;injection e)
   ·rw[dn c3,cond_false];exact no fun e=>c3 (by injection e with _ e;injection e with _ e;injection e)
  ·rw[dn c2,cond_false];exact no fun e=>c2 (by injection e with _ e;injection e)
 ·rw[dn c1,cond_false];exact no fun e=>c1 (by injection e)
theorem gY (k:Nat) (h:k≤999999999):yD.f (k:Int)=some (mkS (Lib.decDigits k),()):=nG1 k (by omega)
theorem pV (n:Nat) (h1:1≤n) (h2:n≤2147483648):sA.f (n:Int)=some (mkS (durT n),0,()):=by
 have e1:Int.tmod (n:Int) 604800=((n%604800:Nat):Int):=by rw[tmn (by omega)];omega
 have e2:w6 (Int.tdiv (n:Int) 604800)=((n/604800:Nat):Int):=by rw[tdn (by omega),wr (by omega) (by omega)];omega
 have e3:w6 (Int.tdiv (n:Int) 86400)=((n/86400:Nat):Int):=by rw[tdn (by omega),wr (by omega) (by omega)];omega
 have e4:Int.tmod (n:Int) 86400=((n%86400:Nat):Int):=by rw[tmn (by omega)];omega
 have e5:w6 (Int.tdiv ((n%86400:Nat):Int) 3600)=((n%86400/3600:Nat):Int):=by rw[tdn (by omega),wr (by omega) (by omega)];omega
 have e6:Int.tmod (w6 (Int.tdiv ((n%86400:Nat):Int) 60)) 60=((n%86400/60%60:Nat):Int):=by rw[tdn (by omega),wr (by omega) (by omega),tmn (by omega)];omega
 have e7:Int.tmod ((n%86400:Nat):Int) 60=((n%86400%60:Nat):Int):=by rw[tmn (by omega)];omega
 have l1:=dF 68 (show n/86400≤999999999 by omega);have l2:=dF 72 (show n%86400/3600≤999999999 by omega);have l3:=dF 77 (show n%86400/60%60≤999999999 by omega);have l4:=dF 83 (show n%86400%60≤999999999 by omega);have l5:=(fI (n/604800)).2 (by omega);have d1:=gY (n/604800) (by omega);have d2:=gY (n/86400) (by omega);have d3:=gY (n%86400/3600) (by omega);have d4:=gY (n%86400/60%60) (by omega);have d5:=gY (n%86400%60) (by omega);have m1:=(fI (n/86400)).2 (by omega);have m2:=(fI (n%86400/3600)).2 (by omega);have m3:=(fI (n%86400/60%60)).2 (by omega);have m4:=(fI (n%86400%60)).2 (by omega);have q80:(⟨#[80]⟩:ByteArray)=mkS [80]:=rfl;have q84:(⟨#[84]⟩:ByteArray)=mkS [84]:=rfl;have q87:(⟨#[87]⟩:ByteArray)=mkS [87]:=rfl;have q68:(⟨#[68]⟩:ByteArray)=mkS [68]:=rfl;have q72:(⟨#[72]⟩:ByteArray)=mkS [72]:=rfl;have q77:(⟨#[77]⟩:ByteArray)=mkS [77]:=rfl;have q83:(⟨#[83]⟩:ByteArray)=mkS [83]:=rfl;have k4:∀x:List UInt8,x.length≤1000→sA.l4 (mkS x) ((n%86400:Nat):Int)=some (mkS (x++part (n%86400%60) 83),0,()):=by
  intro x hx;rw[sA.l4_eq,e7];unfold part;by_cases c:n%86400%60=0
  ·rw[if_pos c,c];simp(disch:=omega)only[ss,bI2]
  ·rw[if_neg c];simp(disch:=omega)only[ss,d5,q83,szS,xD,oH2,rH2]
 have k3:∀x:List UInt8,x.length≤500→sA.l3 (mkS x) ((n%86400:Nat):Int)=some (mkS (x++part (n%86400/60%60) 77++part (n%86400%60) 83),0,()):=by
  intro x hx;rw[sA.l3_eq,e6];have a0:=k4 x (by omega);have a1:=k4 (x++(Lib.decDigits (n%86400/60%60)++[77])) (by rw[oH2,oH2,rH2];omega);by_cases c:n%86400/60%60=0
  ·have hp:part (n%86400/60%60) 77=[]:=by unfold part;rw[if_pos c]
   rw[hp,bI2,c];simp(disch:=omega)only[ss,a0]
  ·have hp:part (n%86400/60%60) 77=Lib.decDigits (n%86400/60%60)++[77]:=by unfold part;rw[if_neg c]
   rw[hp];simp(disch:=omega)only[ss,d4,q77,szS,xD,oH2,rH2,a1]
 have k2:∀x:List UInt8,x.length≤200→n%86400≠0→sA.l2 (n:Int) (mkS x)=some (mkS (x++([84]++part (n%86400/3600) 72++part (n%86400/60%60) 77++part (n%86400%60) 83)),0,()):=by
  intro x hx hne;rw[sA.l2_eq,e4];have a0:=k3 (x++[84]) (by rw[oH2,rH2];omega);have a1:=k3 (x++[84]++(Lib.decDigits (n%86400/3600)++[72])) (by rw[oH2,oH2,oH2,rH2,rH2];omega);by_cases c:n%86400/3600=0
  ·have hp:part (n%86400/3600) 72=[]:=by unfold part;rw[if_pos c]
   have c':¬((n%86400:Nat):Int)≥3600:=by omega
   rw[hp];simp(disch:=omega)only[ss,q84,szS,xD,oH2,rH2,a0];simp
  ·have hp:part (n%86400/3600) 72=Lib.decDigits (n%86400/3600)++[72]:=by unfold part;rw[if_neg c]
   have c':((n%86400:Nat):Int)≥3600:=by omega
   rw[hp];simp(disch:=omega)only[ss,e5,d3,q84,q72,szS,xD,oH2,rH2,a1];simp
 rw[sA.f_eq,dn (by omega),cond_false,dn (by omega),sA.l1_eq,cond_false,e1];unfold durT;by_cases c:n%604800=0
 ·rw[if_pos c,c];simp(disch:=omega)only[ss,e2,d1,q80,q87,szS,xD,oH2,rH2]
 ·rw[if_neg c];by_cases c1:n/86400=0
  ·have hp:part (n/86400) 68=[]:=by unfold part;rw[if_pos c1]
   have c2:¬n%86400=0:=by omega
   rw[if_neg c2,hp,bI2];have:=k2 [80] (by simp) c2;simp(disch:=omega)only[ss,q80,this]
  ·have hp:part (n/86400) 68=Lib.decDigits (n/86400)++[68]:=by unfold part;rw[if_neg c1]
   rw[hp];have hl:([80]++(Lib.decDigits (n/86400)++[68])).length≤200:=by rw[oH2,oH2,rH2,rH2];omega
   by_cases c2:n%86400=0
   ·rw[if_pos c2];have:sA.l2 (n:Int) (mkS ([80]++(Lib.decDigits (n/86400)++[68])))=some (mkS ([80]++(Lib.decDigits (n/86400)++[68])),0,()):=by rw[sA.l2_eq,e4,c2];simp(disch:=omega)only[ss]
    simp(disch:=omega)only[ss,e3,d2,q80,q68,szS,xD,oH2,rH2,this]
   ·rw[if_neg c2];have:=k2 _ hl c2;simp(disch:=omega)only[ss,e3,d2,q80,q68,szS,xD,oH2,rH2,this]
theorem lZ1 (n:Int) (h:¬(1≤n∧n≤2147483648)):sA.f n=some (mkS [],1,()):=by
 rw[sA.f_eq];by_cases c:n<1
 ·rw[dp c,cond_true,sA.l1_eq];rfl
 ·rw[dn c,cond_false,dp (by omega),sA.l1_eq];rfl
theorem eX (l:List Int) (h:l.length≤64) (hu:∀t∈l,-62135596800≤t∧t≤253402300799):oD.f l=some (mkS (jn 44 (l.map utx)),()):=by
 have q44:(⟨#[44]⟩:ByteArray)=mkS [44]:=rfl;have key:∀(k i:Nat),l.length-i=k→i≤l.length→oD.l1 l (mkS (jn 44 ((l.take i).map utx))) (i:Int)=some (mkS (jn 44 (l.map utx)),()):=by
  intro k
  induction k with
  | zero=>
   intro i hk hil;have e:i=l.length:=by omega
   subst e;rw[oD.l1_eq,uJ2];simp(disch:=omega)only[ss]
  | succ k ih=>
   intro i hk hil;have hlt:i<l.length:=by omega
   obtain⟨u1,_,_,u2,_⟩:=yA1 _ (hu _ (iD 0 hlt));have hlen:=jM (l.take i) (by rw[cI2];omega) fun t ht=>hu t (hL2 ht)
   have:=ih (i+1) (by omega) (by omega);rw[tE 0 hlt,fI2,List.map_singleton,wZ]at this;rw[oD.l1_eq];by_cases c:i=0
   ·subst c;rw[List.take_zero,aL2,if_pos rfl]at this;simp(disch:=omega)only[ss,u2,szS,xD,List.take_zero,aL2,show jn 44 []=[]from rfl,aJ2,hI2];exact this
   ·have hne:¬(l.take i).map utx=[]:=fun q=>by have:=congrArg List.length q;rw[tH2,cI2,hI2]at this;omega
    rw[if_neg hne]at this;simp(disch:=omega)only[ss,u2,q44,szS,xD,oH2,rH2];rw[dI2];exact this
 have:=key _ 0 rfl (uH2 _);rw[eI2]at this;rw[oD.f_eq];exact this
theorem cV1 (m:Mt) (hs:jG m) (hM:mayM m):pB.f m=(kA.f ((yM m).map mkS)).bind fun t=>some t:=by
 obtain⟨b,hb,hb2⟩:=jT1 m hs;have hb1:b=true:=hb2.2 hM;subst hb1;obtain⟨z,st,du,rc,r,da,ex,⟨⟩⟩:=m;obtain⟨s1,s2,s3⟩:=hs;obtain⟨m1,m2,m3,m4,m5,m6,m7,m8,m9⟩:=hM;dsimp only at s1 s2 s3 m1 m2 m3 m4 m5 m6 m7 m8 m9;have hlim:uC=17179869184:=rfl;obtain⟨d1,d2,d3⟩:=yN m6;obtain⟨e1,e2,e3⟩:=yN m7;obtain⟨n,rfl⟩:=wI2 (show 0≤du by omega);obtain⟨zn,rfl⟩:=wI2 m1;obtain⟨u0,_,_,u1,_⟩:=yA1 st (oI m3);have hda:=eX da d1 fun t ht=>oI (d3 t ht)
 have hex:=eX ex e1 fun t ht=>oI (e3 t ht)
 have lda:=jM da d1 fun t ht=>oI (d3 t ht)
 have lex:=jM ex e1 fun t ht=>oI (e3 t ht)
 have hdt:=pV n (by omega) (by omega);have ldt:=wH1 n (by omega);have hI:=gY zn (by omega);have lD:=(fI zn).2 (by omega);have q58:(⟨#[58]⟩:ByteArray)=mkS [58]:=rfl;have qF0:(⟨#[68,84,83,84,65,82,84,59,84,90,73,68,61]⟩:ByteArray)=mkS F0:=rfl;have qF1:(⟨#[68,85,82,65,84,73,79,78,58]⟩:ByteArray)=mkS F1:=rfl;have qF2:(⟨#[82,82,85,76,69,58]⟩:ByteArray)=mkS F2:=rfl;have qF3:(⟨#[82,68,65,84,69,58]⟩:ByteArray)=mkS F3:=rfl;have qF4:(⟨#[69,88,68,65,84,69,58]⟩:ByteArray)=mkS F4:=rfl;have lF0:F0.length=13:=rfl;have lF1:F1.length=9:=rfl;have lF2:F2.length=6:=rfl;have lF3:F3.length=6:=rfl;have lF4:F4.length=7:=rfl;have k3:∀L:List (List UInt8),pB.l3 (L.map mkS)=(kA.f (L.map mkS)).bind fun t=>some t:=fun L=>by rw[pB.l3_eq]
 have k2:∀L:List (List UInt8),L.length≤10→pB.l2 ((zn:Int),st,(n:Int),rc,r,da,ex,()) (L.map mkS)=(kA.f ((L++optL (decide (0<ex.length)) (F4++jn 44 (ex.map utx))).map mkS)).bind fun t=>some t:=by
  intro L hL;have hml:(L.map mkS).length=L.length:=tH2 ..;rw[pB.l2_eq];dsimp only;by_cases c:(ex.length:Int)>0
  ·have ho:optL (decide (0<ex.length)) (F4++jn 44 (ex.map utx))=[F4++jn 44 (ex.map utx)]:=by rw[dp (by omega)];rfl
   have:=k3 (L++[F4++jn 44 (ex.map utx)]);rw[fI2]at this;rw[ho,fI2];simp(disch:=omega)only[ss,qF4,hex,szS,lF4,xD,hml,rH2,hlim];exact this
  ·have ho:optL (decide (0<ex.length)) (F4++jn 44 (ex.map utx))=[]:=by rw[dn (by omega)];rfl
   rw[ho,bI2,dn c,cond_false];exact k3 L
 have k1:∀L:List (List UInt8),L.length≤9→pB.l1 ((zn:Int),st,(n:Int),rc,r,da,ex,()) (L.map mkS)=(kA.f ((L++optL (decide (0<da.length)) (F3++jn 44 (da.map utx))++optL (decide (0<ex.length)) (F4++jn 44 (ex.map utx))).map mkS)).bind fun t=>some t:=by
  intro L hL;have hml:(L.map mkS).length=L.length:=tH2 ..;rw[pB.l1_eq];dsimp only;by_cases c:(da.length:Int)>0
  ·have ho:optL (decide (0<da.length)) (F3++jn 44 (da.map utx))=[F3++jn 44 (da.map utx)]:=by rw[dp (by omega)];rfl
   have:=k2 (L++[F3++jn 44 (da.map utx)]) (by rw[oH2,rH2];omega);rw[fI2]at this;rw[ho];simp(disch:=omega)only[ss,qF3,hda,szS,lF3,xD,hml,rH2,hlim];exact this
  ·have ho:optL (decide (0<da.length)) (F3++jn 44 (da.map utx))=[]:=by rw[dn (by omega)];rfl
   rw[ho,bI2,dn c,cond_false];exact k2 L (by omega)
 have hv:F0++Lib.decDigits zn++[58]++utx st=F0++v0 ((zn:Int),st,(n:Int),rc,r,da,ex,()):=by unfold v0;simp
 rw[pB.f_eq,hb];dsimp only
 cases rc with
 | true=>
  have hmr:=m8 rfl;have hp:=eJ1 s1 hmr;obtain⟨p1,p2⟩:=oV r s1 hmr;have hvp:pA.f r=some (mkS (jn 59 (pts r)),0,()):=by obtain⟨f,iv,ct,un,wk,en,mo,we,yd,md,dy,ho,mi,se,po,⟨⟩⟩:=r;exact iG1 f iv ct un wk en mo we yd md dy ho mi se po (by rw[←kA1 _ s1];exact hmr) hp
  have:=k1 [F0++v0 ((zn:Int),st,(n:Int),true,r,da,ex,()),F1++durT n,F2++jn 59 (pts r)] (by simp);simp(disch:=omega)only[ss,u1,hdt,qF0,qF1,qF2,hI,hvp,q58,szS,xD,oH2,lF0,lF1,lF2,rH2,zH2,hI2,hlim,hv];exact this
 | false=>
  have:=k1 [F0++v0 ((zn:Int),st,(n:Int),false,r,da,ex,()),F1++durT n] (by simp);simp(disch:=omega)only[ss,u1,hdt,qF0,qF1,hI,q58,szS,xD,oH2,lF0,lF1,rH2,hv];exact this
theorem vW1 (m:Mt) (hs:jG m):pB.f m=mC.f m:=by
 by_cases hM:mayM m
 ·have hl:=jF1 m hs hM;rw[cV1 m hs hM,eR1 m hs hM,(sP1 (yM m) (by omega) (by omega)).1,(sP1 (yM m) (by omega) (by omega)).2]
 ·rw[yE1 m hs hM];obtain⟨b,hb,hb2⟩:=jT1 m hs
  cases b with
  | true=>exact absurd (hb2.1 rfl) hM
  | false=>
   rw[pB.f_eq,hb];rfl
theorem hO1 (w k:Nat) (h:k<10 ^ (w+1)):(Lib.decDigits k).length≤w+1:=by obtain⟨z,hz,_⟩:=gE2 w k h;omega
theorem tW1 (s:List UInt8) (tot:Int) (v i:Nat) (hi:i<s.length) (hl:s.length≤100000) (hd:dig (s.getD i 0)) (hv:10*v+((s.getD i 0).toNat-48)≤8589934592):
  eA.l1 (mkS s) tot (v:Int) (i:Int)=eA.l1 (mkS s) tot ((10*v+((s.getD i 0).toNat-48):Nat):Int) ((i+1:Nat):Int):=by
 have hbt:bt (mkS s) (i:Int)=((s.getD i 0).toNat:Int):=wH (mkS s) i;have hu:=u8w hd;have hw:mm false (w6 (w6 (10*(v:Int))+w6 (((s.getD i 0).toNat-48:Nat):Int))) 8589934592=((10*v+((s.getD i 0).toNat-48):Nat):Int):=by rw[wr (x:=10*(v:Int)) (by omega) (by omega),wr (x:=(((s.getD i 0).toNat-48:Nat):Int)) (by omega) (by omega),wr (by omega) (by omega),mY1];omega
 unfold dig at hd
 conv=>lhs;rw[eA.l1_eq]
 simp(disch:=omega)only[szS,hbt,dp,dn,cond_true,cond_false];rw[eA.l2_eq,cond_true,hu,hw,eA.l3_eq];simp(disch:=omega)only[ss];rfl
theorem qZ1 (s:List UInt8) (tot v:Int) (i:Nat) (hi:i<s.length) (hl:s.length≤100000) (hd:s.getD i 0=84):
  eA.l1 (mkS s) tot v (i:Int)=eA.l1 (mkS s) tot v ((i+1:Nat):Int):=by
 have hbt:bt (mkS s) (i:Int)=((s.getD i 0).toNat:Int):=wH (mkS s) i;rw[hd]at hbt;have hbt:bt (mkS s) (i:Int)=84:=hbt
 conv=>lhs;rw[eA.l1_eq]
 simp(disch:=omega)only[ss,szS,hbt,eA.l2_eq,eA.l3_eq];rfl
theorem zB2 (s:List UInt8) (tot v i u:Nat) (hi:i<s.length) (hl:s.length≤100000) (hu:rD1 (s.getD i 0) u) (ht:tot≤2147483648) (hv:v*u≤2147483648):
  eA.l1 (mkS s) (tot:Int) (v:Int) (i:Int)=eA.l1 (mkS s) ((tot+v*u:Nat):Int) 0 ((i+1:Nat):Int):=by
 have hbt:bt (mkS s) (i:Int)=((s.getD i 0).toNat:Int):=wH (mkS s) i;have hl3:∀unit:Nat,unit=u→0<unit→eA.l3 (mkS s) (tot:Int) (v:Int) (i:Int) (unit:Int)=eA.l1 (mkS s) ((tot+v*u:Nat):Int) 0 ((i+1:Nat):Int):=by
  intro unit e h0;subst e;have w1:mm false (w6 ((tot:Int)+w6 ((v:Int)*(unit:Int)))) 1152921504606846976=((tot+v*unit:Nat):Int):=by rw[←Int.natCast_mul,wr (x:=((v*unit:Nat):Int)) (by omega) (by omega),wr (by omega) (by omega),mY1];omega
  rw[eA.l3_eq,w1];simp(disch:=omega)only[ss];rfl
 conv=>lhs;rw[eA.l1_eq]
 rcases hu with⟨e,f⟩ | ⟨e,f⟩ | ⟨e,f⟩ | ⟨e,f⟩ | ⟨e,f⟩ <;> rw[e]at hbt
 ·have hbt:bt (mkS s) (i:Int)=87:=hbt;simp(disch:=omega)only[ss,szS,hbt,eA.l2_eq];exact hl3 604800 f.symm (by omega)
 ·have hbt:bt (mkS s) (i:Int)=68:=hbt;simp(disch:=omega)only[ss,szS,hbt,eA.l2_eq];exact hl3 86400 f.symm (by omega)
 ·have hbt:bt (mkS s) (i:Int)=72:=hbt;simp(disch:=omega)only[ss,szS,hbt,eA.l2_eq];exact hl3 3600 f.symm (by omega)
 ·have hbt:bt (mkS s) (i:Int)=77:=hbt;simp(disch:=omega)only[ss,szS,hbt,eA.l2_eq];exact hl3 60 f.symm (by omega)
 ·have hbt:bt (mkS s) (i:Int)=83:=hbt;simp(disch:=omega)only[ss,szS,hbt,eA.l2_eq];exact hl3 1 f.symm (by omega)
theorem oR (pre post:List UInt8) (k:Nat) (c:UInt8) (tot u:Nat) (hl:(pre++(part k c++post)).length≤100000) (hk:k≤999999999) (hu:rD1 c u) (ht:tot≤2147483648) (hv:k*u≤2147483648):
  eA.l1 (mkS (pre++(part k c++post))) (tot:Int) 0 (pre.length:Int) =
   eA.l1 (mkS (pre++(part k c++post))) ((tot+k*u:Nat):Int) 0 ((pre++part k c).length:Int):=by
 unfold part at *;by_cases h0:k=0
 ·subst h0;rw[if_pos rfl,aJ2,bI2,Nat.zero_mul,tK2]
 ·rw[if_neg h0]at hl ⊢;have h9:=(fI k).2 hk;have hdd:=nE1 k;have hval:=rM k;obtain⟨d,hd⟩:∃d,d=Lib.decDigits k:=⟨_,rfl⟩
  rw[←hd]at hl h9 hdd hval ⊢;obtain⟨s,hs⟩:∃s,s=pre++(d++[c]++post):=⟨_,rfl⟩
  have hsl:s.length=pre.length+(d.length+(post.length+1)):=by rw[hs];simp
  have hc:s.getD (pre.length+d.length) 0=c:=by rw[hs,dI2 d,←dI2,qH2,←oH2,lI2 (yH2 _),Nat.sub_self];rfl
  have hget:∀j,j<d.length→s.getD (pre.length+j) 0=d.getD j 0:=fun j hj=>by rw[hs,qH2,lI2 (by omega),kL2,dI2,rI2 (by omega),←qH2]
  have hq:(pre++(d++[c])).length=pre.length+d.length+1:=by simp;omega
  rw[hq,←hs];have hsl2:s.length≤100000:=by rw[hs];exact hl
  have hloop:=mH (fun j:Nat=>eA.l1 (mkS s) (tot:Int) ((dval 0 (d.take j):Nat):Int) ((pre.length+j:Nat):Int)) (i:=0) (k:=d.length) (by omega) fun j _ hj=>by
   have hdj:dig (d.getD j 0):=hdd _ (iD 0 hj);have ht1:d.take (j+1)=d.take j++[d.getD j 0]:=tE 0 hj;have hv1:dval 0 (d.take (j+1))=10*dval 0 (d.take j)+((d.getD j 0).toNat-48):=by rw[ht1,rH];rfl
   have hlt:dval 0 (d.take (j+1))<10 ^ 9:=by
    have h1:=uO (d.take (j+1)) fun x hx=>hdd x (hL2 hx)
    have h2:(10:Nat) ^ (d.take (j+1)).length≤10 ^ 9:=Nat.pow_le_pow_right (by omega) (by rw[cI2];omega);omega
   have hstep:=tW1 s tot (dval 0 (d.take j)) (pre.length+j) (by omega) hsl2 (by rw[hget j hj];exact hdj) (by rw[hget j hj];omega);rw[hget j hj,←hv1]at hstep;exact hstep
  have hfin:=zB2 s tot k (pre.length+d.length) u (by omega) hsl2 (by rw[hc];exact hu) ht hv;have h0':eA.l1 (mkS s) (tot:Int) 0 (pre.length:Int)=eA.l1 (mkS s) (tot:Int) ((dval 0 (d.take d.length):Nat):Int) ((pre.length+d.length:Nat):Int):=hloop;rw[uJ2,hval]at h0';exact h0'.trans hfin
theorem zC2 (s:List UInt8) (n:Nat) (h1:1≤n) (h2:n≤2147483648) (hs:s=durT n) (hl:s.length≤100000) (v:Int):eA.l1 (mkS s) (n:Int) v (s.length:Int)=some ((n:Int),0,()):=by rw[eA.l1_eq,pV n h1 h2,←hs];simp(disch:=omega)only[ss,szS,iE,eA.l4_eq]
theorem vV1 (n:Nat) (h:n≤2147483648):(durT n).length≤30:=by
 have pl:∀(k w:Nat) (u:UInt8),k<10 ^ (w+1)→(part k u).length≤w+2:=by
  intro k w u hk;have:=hO1 w k hk;unfold part;split
  ·simp
  ·rw[oH2,rH2];omega
 have l1:=pl (n/86400) 4 68 (by omega);have l2:=pl (n%86400/3600) 1 72 (by omega);have l3:=pl (n%86400/60%60) 1 77 (by omega);have l4:=pl (n%86400%60) 1 83 (by omega);have l5:=hO1 3 (n/604800) (by omega);unfold durT;split
 ·simp only[oH2,rH2];omega
 ·split
  ·simp only[oH2,rH2];omega
  ·simp only[oH2,rH2];omega
theorem cY (n:Nat) (h1:1≤n) (h2:n≤2147483648):eA.f (mkS (durT n))=some ((n:Int),0,()):=by
 have l1:=dF 68 (show n/86400≤999999999 by omega);have l2:=dF 72 (show n%86400/3600≤999999999 by omega);have l3:=dF 77 (show n%86400/60%60≤999999999 by omega);have l4:=dF 83 (show n%86400%60≤999999999 by omega);have hlen:=vV1 n h2;obtain⟨s,hs⟩:∃s,s=durT n:=⟨_,rfl⟩
 have hne:s≠[]:=by
  rw[hs];unfold durT;split
  ·simp
  ·split <;> simp
 rw[←hs]at hlen ⊢;have hne':mkS s≠mkS []:=fun e=>hne (by have:=congrArg B e;exact this)
 have q0:(⟨#[]⟩:ByteArray)=mkS []:=rfl;have hend:=zC2 s n h1 h2 hs (by omega) 0;rw[eA.f_eq,q0,iE,dn hne',cond_false,szS,dn (by omega),cond_false];by_cases c:n%604800=0
 ·have hp:part (n/604800) 87=Lib.decDigits (n/604800)++[87]:=by unfold part;rw[if_neg (by omega)]
  have e:s=[80]++(part (n/604800) 87++[]):=by rw[hs,hp];unfold durT;rw[if_pos c];simp
  have hq:0+n/604800*604800=n:=by omega
  have:=oR [80] [] (n/604800) 87 0 604800 (by rw[←e];omega) (by omega) (.inl ⟨rfl,rfl⟩) (by omega) (by omega);rw[←e,hq]at this;have hl:([80]++part (n/604800) 87).length=s.length:=by rw[e,bI2]
  rw[hl]at this;exact this.trans hend
 ·by_cases c2:n%86400=0
  ·have e:s=[80]++(part (n/86400) 68++[]):=by rw[hs];unfold durT;rw[if_neg c,if_pos c2,bI2]
   have:=oR [80] [] (n/86400) 68 0 86400 (by rw[←e];omega) (by omega) (.inr (.inl ⟨rfl,rfl⟩)) (by omega) (by omega);have hq:0+n/86400*86400=n:=by omega
   rw[←e,hq]at this;have hl:([80]++part (n/86400) 68).length=s.length:=by rw[e,bI2]
   rw[hl]at this;exact this.trans hend
  ·obtain⟨a,ha⟩:∃a,a=n/86400:=⟨_,rfl⟩
   obtain⟨b,hb⟩:∃b,b=n%86400/3600:=⟨_,rfl⟩
   obtain⟨d,hd⟩:∃d,d=n%86400/60%60:=⟨_,rfl⟩
   obtain⟨f,hf⟩:∃f,f=n%86400%60:=⟨_,rfl⟩
   have hn:n=a*86400+b*3600+d*60+f*1:=by omega
   have e:s=[80]++part a 68++([84]++part b 72++part d 77++part f 83):=by rw[hs];unfold durT;rw[if_neg c,if_neg c2,ha,hb,hd,hf]
   rw[←ha]at l1;rw[←hb]at l2;rw[←hd]at l3;rw[←hf]at l4;have e1:s=[80]++(part a 68++([84]++part b 72++part d 77++part f 83)):=by rw[e];simp
   have e2:s=([80]++part a 68++[84])++(part b 72++(part d 77++part f 83)):=by rw[e];simp
   have e3:s=([80]++part a 68++[84]++part b 72)++(part d 77++part f 83):=by rw[e];simp
   have e4:s=([80]++part a 68++[84]++part b 72++part d 77)++(part f 83++[]):=by rw[e];simp
   have t1:=oR [80] ([84]++part b 72++part d 77++part f 83) a 68 0 86400 (by rw[←e1];omega) (by omega) (.inr (.inl ⟨rfl,rfl⟩)) (by omega) (by omega);have t2:=oR ([80]++part a 68++[84]) (part d 77++part f 83) b 72 (0+a*86400) 3600 (by rw[←e2];omega) (by omega) (.inr (.inr (.inl ⟨rfl,rfl⟩))) (by omega) (by omega);have t3:=oR ([80]++part a 68++[84]++part b 72) (part f 83) d 77 (0+a*86400+b*3600) 60 (by rw[←e3];omega) (by omega) (.inr (.inr (.inr (.inl ⟨rfl,rfl⟩)))) (by omega) (by omega);have t4:=oR ([80]++part a 68++[84]++part b 72++part d 77) [] f 83 (0+a*86400+b*3600+d*60) 1 (by rw[←e4];omega) (by omega) (.inr (.inr (.inr (.inr ⟨rfl,rfl⟩)))) (by omega) (by omega);rw[←e1]at t1;rw[←e2]at t2;rw[←e3]at t3;rw[←e4]at t4;have hq:0+a*86400+b*3600+d*60+f*1=n:=by omega
   have hl:([80]++part a 68++[84]++part b 72++part d 77++part f 83).length=s.length:=by rw[e4,bI2]
   rw[hq,hl]at t4
   have hm2:=qZ1 s ((0+a*86400:Nat):Int) 0 ([80]++part a 68).length (by rw[e];simp only[oH2,rH2];omega) (by omega) (by
    rw[e,qH2,lI2 (yH2 _),Nat.sub_self]
    rfl)
   have hl2:([80]++part a 68).length+1=([80]++part a 68++[84]).length:=by simp
   rw[hl2]at hm2;exact t1.trans (hm2.trans (t2.trans (t3.trans (t4.trans hend))))
theorem qC2 (s:List UInt8) (hs:s.length≤100000):∀(k i:Nat) (tot v:Int),s.length-i=k→i≤s.length→durR s (eA.l1 (mkS s) tot v (i:Int)):=by
 intro k
 induction k with
 | zero=>
  intro i tot v hk hi;have e:i=s.length:=by omega
  subst e;rw[eA.l1_eq];by_cases c:1≤tot∧tot≤2147483648
  ·obtain⟨m,rfl⟩:=wI2 (show 0≤tot by omega);rw[pV m (by omega) (by omega)];simp(disch:=omega)only[ss,szS,iE,eA.l4_eq];by_cases q:mkS (durT m)=mkS s
   ·rw[dp q];exact⟨_,_,rfl,fun _=>⟨m,rfl,by omega,by omega,(congrArg B q).symm⟩⟩
   ·rw[dn q];exact⟨_,_,rfl,fun h=>by simp at h⟩
  ·rw[lZ1 tot c];simp(disch:=omega)only[ss,szS,eA.l4_eq];exact⟨_,_,rfl,fun h=>by simp at h⟩
 | succ k ih=>
  intro i tot v hk hi;have hlt:i<s.length:=by omega
  have hbt:bt (mkS s) (i:Int)=((s.getD i 0).toNat:Int):=wH (mkS s) i;have h3:∀tot n unit:Int,durR s (eA.l3 (mkS s) tot n (i:Int) unit):=by
   intro tot n unit;rw[eA.l3_eq];by_cases c:unit>0
   ·simp(disch:=omega)only[ss];exact ih (i+1) _ _ (by omega) (by omega)
   ·simp(disch:=omega)only[ss];exact ih (i+1) _ _ (by omega) (by omega)
  have two:∀(p:Prop) [Decidable p] {x y:Option (Int×Int×Unit)},durR s x→durR s y→durR s (bif decide p then x else y):=by
   intro p _ x y hx hy;by_cases c:p
   ·rw[dp c];exact hx
   ·rw[dn c];exact hy
  have h2:∀(w c:Int) (x:Bool),durR s (eA.l2 (mkS s) tot v (i:Int) w c x):=by
   intro w c x;rw[eA.l2_eq]
   cases x with
   | true=>exact h3 _ _ _
   | false=>exact two _ (h3 _ _ _) (two _ (h3 _ _ _) (two _ (h3 _ _ _) (two _ (h3 _ _ _) (two _ (h3 _ _ _) (h3 _ _ _)))))
  rw[eA.l1_eq];simp(disch:=omega)only[ss,szS,hbt];exact two _ (h2 _ _ _) (h2 _ _ _)
theorem uN1 (s:List UInt8) (hs:s.length≤100000):durR s (eA.f (mkS s)):=by
 have q0:(⟨#[]⟩:ByteArray)=mkS []:=rfl;rw[eA.f_eq,q0,iE,szS];by_cases c:mkS s=mkS []
 ·rw[dp c];exact⟨_,_,rfl,fun h=>by omega⟩
 ·rw[dn c,cond_false];by_cases c2:(s.length:Int)>30
  ·rw[dp c2];exact⟨_,_,rfl,fun h=>by omega⟩
  ·rw[dn c2,cond_false];have hp:1≤s.length:=by
    cases s with
    | nil=>exact absurd rfl c
    | cons _ _=>simp
   exact qC2 s hs _ 1 0 0 rfl hp
theorem vU1 (s:List UInt8) (hs:s.length≤100000):(∃n:Int,gA.f (mkS s)=some (n,0,())∧eA.f (mkS s)=some (n,0,())) ∨
  (∃a e b f,gA.f (mkS s)=some (a,e,())∧e≠0∧eA.f (mkS s)=some (b,f,())∧f≠0):=by
 obtain⟨a,e,h1,h2⟩:=zI1 s hs;obtain⟨b,f,g1,g2⟩:=uN1 s hs;by_cases c:e=0
 ·obtain⟨m,_,m1,m2,rfl⟩:=h2 c;exact .inl ⟨m,iD1 m m1 m2,cY m m1 m2⟩
 ·by_cases c2:f=0
  ·obtain⟨m,_,m1,m2,rfl⟩:=g2 c2;exact .inl ⟨m,iD1 m m1 m2,cY m m1 m2⟩
  ·exact .inr ⟨a,e,b,f,h1,c,g1,c2⟩
def LB (a b:Option (List Int×Bool×Unit)):Prop:=(∃l,l.length≤64∧a=some (l,true,())∧b=some (l,true,()))∨(∃l l',a=some (l,false,())∧b=some (l',false,()))
theorem pQ1 {y:List Int} {t:Int} {j:Nat} (hj:j<y.length):adjI (y++[t]) j↔adjI y j:=by unfold adjI;rw[bH _ _ _ _ hj,bH _ _ _ _ (by omega)]
theorem gmX (X:List (List UInt8)) {i:Nat} (hi:i<X.length):(X.map mkS).getD i ByteArray.empty=mkS (X.getD i []):=by rw[qH2,mJ2,qH2,aI2 hi];rfl
section
variable (X : List (List UInt8)) (hX : X.length ≤ 100000) (hs : ∀ s ∈ X, s.length ≤ 100000)
include hX hs
theorem zD2 :∀(k i:Nat) (y:List Int),X.length-i=k→i≤X.length→y.length=i → ¬(∀j,j<y.length→adjI y j) → ∃l,jD.l1 (X.map mkS) (i:Int) y=some (l,false,()):=by
 have hlim:uC=17179869184:=rfl;have hm:(X.map mkS).length=X.length:=tH2 ..;intro k
 induction k with
 | zero=>
  intro i y hk hi hy hn;obtain⟨b,hb,hb2⟩:=lM y (by omega);rw[jD.l1_eq];simp(disch:=omega)only[ss,hm,hb]
  cases b with
  | true=>exact absurd (hb2.1 rfl) hn
  | false=>exact⟨_,rfl⟩
 | succ k ih=>
  intro i y hk hi hy hn;have hlt:i<X.length:=by omega
  obtain⟨t,e,_,h2⟩:=jH (X.getD i []) (by have:=hs _ (iD [] hlt);omega);rw[jD.l1_eq];by_cases c:e=0
  ·simp(disch:=omega)only[ss,hm,gmX X hlt,h2,rH2,hlim];refine ih (i+1) (y++[t]) (by omega) (by omega) (by simp;omega) fun q=>hn fun j hj=>?_
   exact(pQ1 hj).1 (q j (by simp;omega))
  ·simp(disch:=omega)only[ss,hm,gmX X hlt,h2];exact⟨_,rfl⟩
theorem aC2 (h64:64<X.length):∀(k i:Nat) (y:List Int),64-i=k→i≤64→y.length=i → ∃l,qA.l1 (X.map mkS) (X.length:Int) (i:Int) y=some (l,false,()):=by
 have hlim:uC=17179869184:=rfl;have hm:(X.map mkS).length=X.length:=tH2 ..;intro k
 induction k with
 | zero=>
  intro i y hk hi hy;have hlt:i<X.length:=by omega
  obtain⟨t,e,h2,_⟩:=jH (X.getD i []) (by have:=hs _ (iD [] hlt);omega);rw[qA.l1_eq];by_cases c:e=0
  ·simp(disch:=omega)only[ss,hm,gmX X hlt,h2,qA.l2_eq];exact⟨_,rfl⟩
  ·simp(disch:=omega)only[ss,hm,gmX X hlt,h2,qA.l2_eq];exact⟨_,rfl⟩
 | succ k ih=>
  intro i y hk hi hy;have hlt:i<X.length:=by omega
  obtain⟨t,e,h2,_⟩:=jH (X.getD i []) (by have:=hs _ (iD [] hlt);omega);have next:∃l,qA.l2 t (X.map mkS) (X.length:Int) (i:Int) false y=some (l,false,()):=by rw[qA.l2_eq,cond_false,qA.l3_eq];simp(disch:=omega)only[ss,rH2,hlim];exact ih (i+1) (y++[t]) (by omega) (by omega) (by simp;omega)
  have stop:∃l,qA.l2 t (X.map mkS) (X.length:Int) (i:Int) true y=some (l,false,()):=by rw[qA.l2_eq,cond_true];exact⟨_,rfl⟩
  rw[qA.l1_eq];by_cases c:e=0
  ·by_cases c0:i=0
   ·simp(disch:=omega)only[ss,hm,gmX X hlt,h2];exact next
   ·by_cases c1:t≤y.getD (i-1) 0
    ·simp(disch:=omega)only[ss,hm,gmX X hlt,h2];exact stop
    ·simp(disch:=omega)only[ss,hm,gmX X hlt,h2];exact next
  ·simp(disch:=omega)only[ss,hm,gmX X hlt,h2];exact stop
theorem lN1 (h64:X.length≤64):∀(k i:Nat) (y:List Int),X.length-i=k→i≤X.length→y.length=i→(∀j,j<y.length→adjI y j)→LB (qA.l1 (X.map mkS) (X.length:Int) (i:Int) y) (jD.l1 (X.map mkS) (i:Int) y):=by
 have hlim:uC=17179869184:=rfl;have hm:(X.map mkS).length=X.length:=tH2 ..;intro k
 induction k with
 | zero=>
  intro i y hk hi hy hn;obtain⟨b,hb,hb2⟩:=lM y (by omega);rw[hb2.2 hn]at hb;rw[qA.l1_eq,jD.l1_eq];simp(disch:=omega)only[ss,hm,hb];exact .inl ⟨y,by omega,rfl,rfl⟩
 | succ k ih=>
  intro i y hk hi hy hn;have hlt:i<X.length:=by omega
  obtain⟨t,e,h1,h2⟩:=jH (X.getD i []) (by have:=hs _ (iD [] hlt);omega)
  have next:(0<i→y.getD (i-1) 0<t)→LB (qA.l2 t (X.map mkS) (X.length:Int) (i:Int) false y) (jD.l1 (X.map mkS) ((i+1:Nat):Int) (y++[t])):=fun q=>by
   rw[qA.l2_eq,cond_false,qA.l3_eq];simp(disch:=omega)only[ss,rH2,hlim];refine ih (i+1) (y++[t]) (by omega) (by omega) (by simp;omega) fun j hj=>?_
   by_cases cj:j<y.length
   ·exact(pQ1 cj).2 (hn j cj)
   ·have ej:j=y.length:=by simp at hj;omega
    subst ej;intro h0;rw[fV,bH _ _ _ _ (by omega)];have:=q (by omega);rwa[←hy]at this
  have stop:∀v,(∃l',v=some (l',false,()))→LB (qA.l2 t (X.map mkS) (X.length:Int) (i:Int) true y) v:=fun v ⟨l',hv⟩=>by rw[qA.l2_eq,cond_true,hv];exact .inr ⟨_,_,rfl,rfl⟩
  rw[qA.l1_eq,jD.l1_eq];by_cases c:e=0
  ·by_cases c0:i=0
   ·simp(disch:=omega)only[ss,hm,gmX X hlt,h1,h2,rH2,hlim];exact next fun q=>by omega
   ·by_cases c1:t≤y.getD (i-1) 0
    ·simp(disch:=omega)only[ss,hm,gmX X hlt,h1,h2,rH2,hlim];refine stop _ (zD2 X hX hs _ (i+1) (y++[t]) rfl (by omega) (by simp;omega) fun q=>?_);have:=q i (by simp;omega) (by omega);rw[←hy,fV,bH _ _ _ _ (by omega),hy]at this;omega
    ·simp(disch:=omega)only[ss,hm,gmX X hlt,h1,h2,rH2,hlim];exact next fun _=>by omega
  ·simp(disch:=omega)only[ss,hm,gmX X hlt,h1,h2];exact stop _ ⟨_,rfl⟩
end
theorem mE1 (s:List UInt8) (hl:s.length≤10000):LB (qA.f (mkS s)) (jD.f (mkS s)):=by
 have hS:pD.f (mkS s) ⟨#[44]⟩=some ((segs 44 s).map mkS,()):=nK (c:=44) s (by omega);have hV:rB.f (mkS s) 44=some ((segs 44 s).map mkS,()):=cK 44 s (by omega);have hsl:=gM 44 s;have hX:(segs 44 s).length≤100000:=by omega
 have hs:∀t∈segs 44 s,t.length≤100000:=fun t ht=>by have:=hsl.2 t ht;omega
 have hm:((segs 44 s).map mkS).length=(segs 44 s).length:=tH2 ..;rw[qA.f_eq,jD.f_eq,hS,hV];by_cases c:(segs 44 s).length≤64
 ·simp(disch:=omega)only[ss,hm];exact lN1 _ hX hs c _ 0 [] rfl (uH2 _) rfl fun j hj=>by simp at hj
 ·simp(disch:=omega)only[ss,hm];obtain⟨l,h⟩:=aC2 _ hX hs (by omega) _ 0 [] rfl (uH2 _) rfl;rw[eI2]at h;exact .inr ⟨_,_,h,rfl⟩
theorem zP1 (a v:List UInt8) (hl:a.length+v.length≤100000) (ha:58∉a):∃t e,iB.f (mkS v)=some (t,e,())∧mB.f (mkS v)=some (t,e,()) ∧
  ((∃n,isN a n∧dE.f (mkS (a++58::v))=some (n,t,decide (e=0),()))∨((∀n,¬isN a n) ∧ ∃n,dE.f (mkS (a++58::v))=some (n,t,false,()))):=by
 obtain⟨t,e,p1,p2⟩:=jH v (by omega);refine⟨t,e,p1,p2,?_⟩;have hC:aE.f (mkS (a++58::v)) ⟨#[58]⟩=some (mkS a,mkS v,true,()):=nT (c:=58) (by omega) ha;have hr:=zB1 (mkS a);have hA:=wT a (by omega);rw[dE.f_eq,hC];simp only[pH2,hA,p1,cond_true];have small:∀n,isN a n→dK (mkS a)=(n,true):=by rintro n ⟨rfl,h0,h1⟩;unfold dK;rw[show(mkS (Lib.itoa n)).data.toList=Lib.itoa n from rfl,zY h0 h1]
 generalize hp:dK (mkS a)=p at hr small;obtain⟨n,b⟩:=p;simp only at hr small ⊢
 cases b with
 | false=>exact .inr ⟨fun m hm=>(by have:=small m hm;cases this),n,rfl⟩
 | true=>
  have hI:=rJ n hr.1 hr.2;have hT:=yR a (by omega);rw[cond_true,hI];simp only[pH2,iE];by_cases he:mkS (Lib.itoa n)=mkS a
  ·have he':=jJ he;rw[dp he,cond_true,hT];simp only[pH2,szS]
   have hl:((if a.head?=some 45 then a.tail else a).length:Int)=(Lib.itoa n).length-(if n<0 then 1 else 0):=by
    rw[←he'];by_cases hn:n<0
    ·rw[tG hn,if_pos hn,if_pos (show(45::Lib.decDigits n.natAbs).head?=some 45 from rfl)];simp
    ·rw[fG hn,if_neg hn,if_neg]
     ·simp
     ·intro q
      cases hD:Lib.decDigits n.toNat with
      | nil=>exact D_ne _ hD
      | cons c r=>
       rw[hD]at q;simp at q;have:=(yX hD).2;rw[q]at this;exact this rfl
   rw[hl];by_cases h9: -999999999≤n∧n≤999999999
   ·rw[dp ((qN n).2 h9)];exact .inl ⟨n,⟨he'.symm,h9⟩,rfl⟩
   ·rw[dn fun q=>h9 ((qN n).1 q)];refine .inr ⟨fun m hm=>?_,n,rfl⟩;have:=small m hm;simp only[Prod.mk.injEq,and_true]at this;subst this;exact h9 hm.2
  ·rw[dn he,cond_false];refine .inr ⟨fun m hm=>?_,n,rfl⟩;have:=small m hm;simp only[Prod.mk.injEq,and_true]at this;subst this;exact he (by rw[hm.1])
theorem hM1 (w:List UInt8) (hl:w.length≤100000) (h:58∉w):∃n t,dE.f (mkS w)=some (n,t,false,()):=by have hC:aE.f (mkS w) ⟨#[58]⟩=some (mkS w,mkS [],false,()):=yT (s:=mkS w) (c:=58) h;have hA:=wT w (by omega);obtain⟨t,e,p1,p2⟩:=jH [] (by simp);rw[dE.f_eq,hC];simp only[pH2,hA,p1,cond_false];exact⟨_,_,rfl⟩
def Nm :Nat→List UInt8
 | 1=>[68,84,83,84,65,82,84]
 | 2=>[68,85,82,65,84,73,79,78]
 | 3=>[82,82,85,76,69]
 | 4=>[82,68,65,84,69]
 | 5=>[69,88,68,65,84,69]
 | _=>[]
abbrev NS :List ByteArray:=[⟨#[]⟩,⟨#[68,84,83,84,65,82,84]⟩,⟨#[68,85,82,65,84,73,79,78]⟩,⟨#[82,82,85,76,69]⟩,⟨#[82,68,65,84,69]⟩,⟨#[69,88,68,65,84,69]⟩]
theorem cF2 (i:Nat) (h1:1≤i) (h5:i≤5):NS.getD i ByteArray.empty=mkS (Nm i):=by
 have:i=1∨i=2∨i=3∨i=4∨i=5:=by omega
 rcases this with rfl | rfl | rfl | rfl | rfl <;> rfl
theorem cK1 (a v:List UInt8) (hl:(a++58::v).length≤100000) (ha:58∉a):zA.f (mkS (a++58::v))=zA.l2 (mkS (a++58::v)) (a.length:Int) 0:=by
 have hll:(a++58::v).length=a.length+v.length+1:=by simp;omega
 obtain⟨s,hs⟩:∃s,s=a++58::v:=⟨_,rfl⟩
 rw[←hs]at hll hl ⊢
 have h:=mH (fun j:Nat=>zA.l1 (mkS s) (j:Int)) (uH2 a.length) fun j _ hj=>by
  have hbt:bt (mkS s) (j:Int)=(chr s j:Int):=wH (mkS s) j;have hne:chr s j≠58:=by rw[hs,iQ hj];exact cL1 ha hj
  show zA.l1 (mkS s) (j:Int)=zA.l1 (mkS s) ((j+1:Nat):Int)
  conv=>lhs;rw[zA.l1_eq]
  simp(disch:=omega)only[ss,szS,hbt];rfl
 have h:zA.l1 (mkS s) 0=zA.l1 (mkS s) (a.length:Int):=h;have hbt:bt (mkS s) (a.length:Int)=58:=by have:bt (mkS s) (a.length:Int)=(chr s a.length:Int):=wH (mkS s) a.length;rw[this,hs,uY1];rfl
 rw[zA.f_eq,h,zA.l1_eq];simp(disch:=omega)only[ss,szS,hbt]
theorem nU (a v:List UInt8) (c:UInt8):(a++c::v).drop (a.length+1)=v:=by rw[←nK2,qJ2];rfl
theorem yS1 (a v:List UInt8) (hl:(a++58::v).length≤100000) (ha:58∉a) (hb:59∉a):zA.f (mkS (a++58::v))=some (mkS a,mkS [],mkS v,true,()):=by
 rw[cK1 a v hl ha];have hll:(a++58::v).length=a.length+v.length+1:=by simp;omega
 have x1:(mkS (a++58::v)).extract 0 a.length=mkS a:=by rw[ex_S];simp
 have x2:(mkS (a++58::v)).extract (a.length+1) (a++58::v).length=mkS v:=by rw[ex_S,hll,nU,yJ2 (by omega)]
 obtain⟨s,hs⟩:∃s,s=a++58::v:=⟨_,rfl⟩
 rw[←hs]at hll hl x1 x2 ⊢
 have h:=mH (fun j:Nat=>zA.l2 (mkS s) (a.length:Int) (j:Int)) (uH2 a.length) fun j _ hj=>by
  have hbt:bt (mkS s) (j:Int)=(chr s j:Int):=wH (mkS s) j;have hne:chr s j≠59:=by rw[hs,iQ hj];exact cL1 hb hj
  show zA.l2 (mkS s) (a.length:Int) (j:Int)=zA.l2 (mkS s) (a.length:Int) ((j+1:Nat):Int)
  conv=>lhs;rw[zA.l2_eq]
  simp(disch:=omega)only[ss,szS,hbt];rfl
 have h:zA.l2 (mkS s) (a.length:Int) 0=zA.l2 (mkS s) (a.length:Int) (a.length:Int):=h;rw[h,zA.l2_eq];simp(disch:=omega)only[ss,szS,x1,x2];rfl
theorem lQ1 (n p v:List UInt8) (hl:(n++59::p++58::v).length≤100000) (hn:58∉n) (hb:59∉n) (hp:58∉p):zA.f (mkS (n++59::p++58::v))=some (mkS n,mkS p,mkS v,true,()):=by
 have h58:58∉n++59::p:=by
  rw[kI2,vH2];rintro(q | q | q)
  ·exact hn q
  ·exact absurd q (by decide)
  ·exact hp q
 rw[cK1 _ v hl h58];obtain⟨a,hA⟩:∃a,a=n++59::p:=⟨_,rfl⟩
 have hal:a.length=n.length+p.length+1:=by rw[hA];simp;omega
 have hll:(a++58::v).length=a.length+v.length+1:=by simp;omega
 rw[←hA]at hl ⊢;have x1:(mkS (a++58::v)).extract 0 n.length=mkS n:=by rw[ex_S,hA];simp
 have x2:(mkS (a++58::v)).extract (a.length+1) (a++58::v).length=mkS v:=by rw[ex_S,hll,nU,yJ2 (by omega)]
 have x3:(mkS (a++58::v)).extract (n.length+1) a.length=mkS p:=by
  have:a.length-(n.length+1)=p.length:=by omega
  rw[ex_S,this,hA,dI2,nL2,nU,aK2]
 obtain⟨s,hs⟩:∃s,s=a++58::v:=⟨_,rfl⟩
 rw[←hs]at hll hl x1 x2 x3 ⊢
 have hchr:∀j,j<n.length→chr s j=chr n j:=fun j hj=>by rw[hs,iQ (by omega),hA,iQ hj]
 have h:=mH (fun j:Nat=>zA.l2 (mkS s) (a.length:Int) (j:Int)) (uH2 n.length) fun j _ hj=>by
  have hbt:bt (mkS s) (j:Int)=(chr s j:Int):=wH (mkS s) j;have hne:chr s j≠59:=by rw[hchr j hj];exact cL1 hb hj
  show zA.l2 (mkS s) (a.length:Int) (j:Int)=zA.l2 (mkS s) (a.length:Int) ((j+1:Nat):Int)
  conv=>lhs;rw[zA.l2_eq]
  simp(disch:=omega)only[ss,szS,hbt];rfl
 have h:zA.l2 (mkS s) (a.length:Int) 0=zA.l2 (mkS s) (a.length:Int) (n.length:Int):=h;have hbt:bt (mkS s) (n.length:Int)=59:=by have:bt (mkS s) (n.length:Int)=(chr s n.length:Int):=wH (mkS s) n.length;rw[this,hs,iQ (by omega),hA,uY1];rfl
 rw[h,zA.l2_eq];simp(disch:=omega)only[ss,szS,hbt,x1,x2,x3]
theorem kG2 (s:List UInt8):58∉s∨(∃a v,s=a++58::v∧58∉a∧59∉a)∨(∃n p v,s=n++59::p++58::v∧58∉n∧59∉n∧58∉p):=by
 rcases iI (c:=58) (l:=s)with h | ⟨a,v,rfl,ha⟩
 ·exact .inl h
 ·rcases iI (c:=59) (l:=a)with h | ⟨n,p,rfl,hn⟩
  ·exact .inr (.inl ⟨a,v,rfl,ha,h⟩)
  ·rw[kI2,vH2]at ha;exact .inr (.inr ⟨n,p,v,rfl,fun q=>ha (.inl q),hn,fun q=>ha (.inr (.inr q))⟩)
theorem rQ1 (x1:ByteArray) (st k:Int) (a:List UInt8) (p v:ByteArray) (ok:Bool) (y:Mt) (i:Nat) (h1:1≤i) (h5:i≤5):
  aA.l1 x1 st (mkS a) p v ok k (i:Int) y NS=aA.l1 x1 st (mkS a) p v ok (if ok=true∧a=Nm i then(i:Int)else k) ((i+1:Nat):Int) y NS:=by
 have hlen:NS.length=6:=rfl;have hg:=cF2 i h1 h5;have hd:decide (mkS (Nm i)=mkS a)=decide (a=Nm i):=decide_eq_decide.2 ⟨fun h=>(jJ h).symm,fun h=>by rw[h]⟩
 conv=>lhs;rw[aA.l1_eq]
 simp(disch:=omega)only[ss,hlen,hg,iE,hd];by_cases c:a=Nm i
 ·rw[dp c,cond_true,aA.l2_eq]
  cases ok with
  | true=>
   rw[if_pos ⟨rfl,c⟩];simp(disch:=omega)only[ss];rfl
  | false=>
   rw[if_neg (by simp)];simp(disch:=omega)only[ss];rfl
 ·rw[dn c,cond_false,aA.l2_eq,if_neg (by simp[c])];simp(disch:=omega)only[ss];rfl
theorem oG2 (i j:Nat) (h1:1≤i∧i≤5) (h2:1≤j∧j≤5) (h:i≠j):Nm i≠Nm j:=by
 have a:i=1∨i=2∨i=3∨i=4∨i=5:=by omega
 have b:j=1∨j=2∨j=3∨j=4∨j=5:=by omega
 rcases a with rfl | rfl | rfl | rfl | rfl <;> rcases b with rfl | rfl | rfl | rfl | rfl <;> first | exact absurd rfl h | decide
theorem gH1 (x1:ByteArray) (st:Int) (a:List UInt8) (p v:ByteArray) (y:Mt) (j:Nat) (hj:1≤j∧j≤5) (ha:a=Nm j):aA.l1 x1 st (mkS a) p v true 0 1 y NS=aA.l1 x1 st (mkS a) p v true (j:Int) 6 y NS:=by
 have s:=fun(k:Int) (i:Nat) h1 h5=>rQ1 x1 st k a p v true y i h1 h5
 have no:∀i,1≤i→i≤5→i≠j→a≠Nm i:=fun i h1 h2 h3 e=>oG2 i j ⟨h1,h2⟩ hj h3 (e.symm.trans ha)
 have e1:=s 0 1 (by omega) (by omega);rw[show((1:Nat):Int)=1 from rfl]at e1;rw[e1,s _ 2 (by omega) (by omega),s _ 3 (by omega) (by omega),s _ 4 (by omega) (by omega),s _ 5 (by omega) (by omega)];have:j=1∨j=2∨j=3∨j=4∨j=5:=by omega
 rcases this with rfl | rfl | rfl | rfl | rfl
 ·rw[if_neg (fun q=>no 5 (by omega) (by omega) (by omega) q.2),if_neg (fun q=>no 4 (by omega) (by omega) (by omega) q.2),if_neg (fun q=>no 3 (by omega) (by omega) (by omega) q.2),if_neg (fun q=>no 2 (by omega) (by omega) (by omega) q.2),if_pos ⟨rfl,ha⟩];rfl
 ·rw[if_neg (fun q=>no 5 (by omega) (by omega) (by omega) q.2),if_neg (fun q=>no 4 (by omega) (by omega) (by omega) q.2),if_neg (fun q=>no 3 (by omega) (by omega) (by omega) q.2),if_pos ⟨rfl,ha⟩];rfl
 ·rw[if_neg (fun q=>no 5 (by omega) (by omega) (by omega) q.2),if_neg (fun q=>no 4 (by omega) (by omega) (by omega) q.2),if_pos ⟨rfl,ha⟩];rfl
 ·rw[if_neg (fun q=>no 5 (by omega) (by omega) (by omega) q.2),if_pos ⟨rfl,ha⟩];rfl
 ·rw[if_pos ⟨rfl,ha⟩];rfl
theorem aH1 (x1:ByteArray) (st:Int) (a:List UInt8) (p v:ByteArray) (ok:Bool) (y:Mt) (ha:ok=true → ∀i,1≤i→i≤5→a≠Nm i):aA.l1 x1 st (mkS a) p v ok 0 1 y NS=aA.l1 x1 st (mkS a) p v ok 0 6 y NS:=by
 have s:=fun(i:Nat) h1 h5=>rQ1 x1 st 0 a p v ok y i h1 h5
 have no:∀i:Nat,1≤i→i≤5→(if ok=true∧a=Nm i then(i:Int)else 0)=0:=fun i h1 h2=>if_neg fun q=>ha q.1 i h1 h2 q.2
 have e1:=s 1 (by omega) (by omega);rw[show((1:Nat):Int)=1 from rfl]at e1;have n1:=no 1 (by omega) (by omega);rw[show((1:Nat):Int)=1 from rfl]at n1;rw[e1,n1,s 2 (by omega) (by omega),no 2 (by omega) (by omega),s 3 (by omega) (by omega),no 3 (by omega) (by omega),s 4 (by omega) (by omega),no 4 (by omega) (by omega),s 5 (by omega) (by omega),no 5 (by omega) (by omega)];rfl
section
variable (s a p v : List UInt8) (hs : s.length ≤ 100000) (ha : a.length ≤ 100000) (hp : p.length ≤ 100000) (hv : v.length ≤ 100000) (st : Nat) (hst : st ≤ 5) (ok : Bool) (y : Mt)
include hs ha hp hv hst
theorem zS (k:Nat) (hk:k≤st):aA.l1 (mkS s) (st:Int) (mkS a) (mkS p) (mkS v) ok (k:Int) 6 y NS=some (0,y,()):=by have _:=hs;have _:=ha;have _:=hp;have _:=hv;have _:=hst;have hlen:NS.length=6:=rfl;rw[aA.l1_eq];simp(disch:=omega)only[ss,hlen,aA.l3_eq]
theorem oS1 (k:Nat) (h1:st<k) (h2:st<2) (h3:k≠st+1) (h5:k≤5):aA.l1 (mkS s) (st:Int) (mkS a) (mkS p) (mkS v) ok (k:Int) 6 y NS=some (0,y,()):=by have _:=hs;have _:=ha;have _:=hp;have _:=hv;have _:=hst;have hlen:NS.length=6:=rfl;rw[aA.l1_eq];simp(disch:=omega)only[ss,hlen,aA.l3_eq]
theorem pR1 (k:Nat) (h1:st<k) (h2:2≤st∨k=st+1) (h5:k≤5) (hk:1<k):aA.l1 (mkS s) (st:Int) (mkS a) (mkS p) (mkS v) ok (k:Int) 6 y NS=if s=a++58::v then aA.l4 (mkS p) (mkS v) ok (k:Int) y else some (0,y,()):=by
 have _:=hs;have _:=ha;have _:=hp;have _:=hv;have _:=hst;have hlen:NS.length=6:=rfl;have q58:(⟨#[58]⟩:ByteArray)=mkS [58]:=rfl;have hd:decide (mkS s=mkS (a++[58]++v))=decide (s=a++58::v):=decide_eq_decide.2 ⟨fun h=>by have:=jJ h;rw[this];simp,fun h=>by rw[h];congr 1;simp⟩;rw[aA.l1_eq];by_cases c:st<2
 ·simp(disch:=omega)only[ss,hlen,q58,szS,xD,iE,hd,oH2,rH2];by_cases e:s=a++58::v
  ·rw[dp e,if_pos e];simp(disch:=omega)only[ss,aA.l3_eq]
  ·rw[dn e,if_neg e];simp(disch:=omega)only[ss,aA.l3_eq]
 ·simp(disch:=omega)only[ss,hlen,q58,szS,xD,iE,hd,oH2,rH2];by_cases e:s=a++58::v
  ·rw[dp e,if_pos e];simp(disch:=omega)only[ss,aA.l3_eq]
  ·rw[dn e,if_neg e];simp(disch:=omega)only[ss,aA.l3_eq]
theorem qB1 (h0:st=0):aA.l1 (mkS s) (st:Int) (mkS a) (mkS p) (mkS v) ok 1 6 y NS=if s=a++59::p++58::v then aA.l4 (mkS p) (mkS v) ok 1 y else some (0,y,()):=by
 have _:=hs;have _:=ha;have _:=hp;have _:=hv;have _:=hst;have hlen:NS.length=6:=rfl;have q58:(⟨#[58]⟩:ByteArray)=mkS [58]:=rfl;have q59:(⟨#[59]⟩:ByteArray)=mkS [59]:=rfl;have hd:decide (mkS s=mkS (a++[59]++p++[58]++v))=decide (s=a++59::p++58::v):=decide_eq_decide.2 ⟨fun h=>by have:=jJ h;rw[this];simp,fun h=>by rw[h];congr 1;simp⟩;subst h0;rw[aA.l1_eq];simp(disch:=omega)only[ss,hlen,q58,q59,szS,xD,iE,hd,oH2,rH2];by_cases e:s=a++59::p++58::v
 ·rw[dp e,if_pos e];simp(disch:=omega)only[ss,aA.l3_eq]
 ·rw[dn e,if_neg e];simp(disch:=omega)only[ss,aA.l3_eq]
end
def VB (k:Int) (a:Option (Bool×Mt×Unit)) (b:Option (Int×Mt×Unit)):Prop:=(∃y',jG y'∧a=some (true,y',())∧b=some (k,y',()))∨(∃y1 y2,a=some (false,y1,())∧b=some (0,y2,()))
theorem oM1 (y:Mt) (k:Nat) (w:List UInt8) (p:ByteArray) (h1:1≤k) (h5:k<5) (hw:w.length≤4096) (hy:jG y):VB ((k+1:Nat):Int) (rD.f y (k:Int) (mkS w)) (aA.l4 p (mkS w) true ((k+1:Nat):Int) y):=by
 obtain⟨b,m',hr,hsm⟩:=iR y k w h5 hw hy;have this:k=1∨k=2∨k=3∨k=4:=by omega
 rw[aA.l4_eq];rcases this with rfl | rfl | rfl | rfl
 ·rw[rD.f_eq]at hr ⊢;rcases vU1 w (by omega)with⟨n,g1,g2⟩ | ⟨a,e,c,f,g1,g2,g3,g4⟩
  ·simp(disch:=omega)only[ss,g1]at hr;cases hr;simp(disch:=omega)only[ss,g1,g2,aA.l9_eq,aA.l10_eq];exact .inl ⟨_,hsm,rfl,rfl⟩
  ·simp(disch:=omega)only[ss,g1,g3,aA.l9_eq,aA.l10_eq];exact .inr ⟨_,_,rfl,rfl⟩
 ·rw[rD.f_eq]at hr ⊢;obtain⟨R,n,e,g1,g2,_⟩:=vY w (by omega);by_cases c:e=0
  ·subst c;simp(disch:=omega)only[ss,g1]at hr;cases hr;simp(disch:=omega)only[ss,g1,g2,aA.l9_eq,aA.l10_eq];exact .inl ⟨_,hsm,rfl,rfl⟩
  ·simp(disch:=omega)only[ss,g1,g2,aA.l9_eq,aA.l10_eq];exact .inr ⟨_,_,rfl,rfl⟩
 ·rw[rD.f_eq]at hr ⊢;rcases mE1 w (by omega)with⟨l,_,g1,g2⟩ | ⟨l,l',g1,g2⟩
  ·simp(disch:=omega)only[ss,g1]at hr;cases hr;simp(disch:=omega)only[ss,g1,g2,aA.l9_eq,aA.l10_eq];exact .inl ⟨_,hsm,rfl,rfl⟩
  ·simp(disch:=omega)only[ss,g1,g2,aA.l9_eq,aA.l10_eq];exact .inr ⟨_,_,rfl,rfl⟩
 ·rw[rD.f_eq]at hr ⊢;rcases mE1 w (by omega)with⟨l,_,g1,g2⟩ | ⟨l,l',g1,g2⟩
  ·simp(disch:=omega)only[ss,g1]at hr;cases hr;simp(disch:=omega)only[ss,g1,g2,aA.l9_eq,aA.l10_eq];exact .inl ⟨_,hsm,rfl,rfl⟩
  ·simp(disch:=omega)only[ss,g1,g2,aA.l9_eq,aA.l10_eq];exact .inr ⟨_,_,rfl,rfl⟩
def TZ :List UInt8:=[84,90,73,68,61]
theorem uT1 (y:Mt) (p v:List UInt8) (hp:p.length≤100000) (h:∀a,p≠TZ++a):aA.l4 (mkS p) (mkS v) true 1 y=some (0,y,()):=by
 have q:(⟨#[84,90,73,68,61]⟩:ByteArray)=mkS TZ:=rfl;have hx:(mkS p).extract 0 5=mkS (p.take 5):=yH (by rw[dN,B_mk,B_mk]);rw[aA.l4_eq];by_cases c:(p.length:Int)>5
 ·have hne:¬mkS (p.take 5)=mkS TZ:=fun e=>h (p.drop 5) (by have:=jJ e;rw[←this,eJ2])
  simp(disch:=omega)only[ss,szS,hx,q,iE,aA.l5_eq,aA.l6_eq,aA.l7_eq]
 ·simp(disch:=omega)only[ss,szS,aA.l5_eq,aA.l6_eq,aA.l7_eq]
theorem pB2 (n:Int):¬isN [] n:=fun h=>vQ1 n h.1.symm
theorem sH1 (y:Mt) (a v:List UInt8) (hl:a.length+v.length≤4096) (ha:58∉a) (hy:jG y):VB 1 (rD.f y 0 (mkS (a++58::v))) (aA.l4 (mkS (TZ++a)) (mkS v) true 1 y):=by
 have q:(⟨#[84,90,73,68,61]⟩:ByteArray)=mkS TZ:=rfl;have hx:(mkS (TZ++a)).extract 0 5=mkS TZ:=yH (by rw[dN,B_mk,B_mk];rfl);have hx2:(mkS (TZ++a)).extract 5 (TZ++a).length=mkS a:=yH (by rw[←szS (TZ++a),zK,B_mk,B_mk];rfl);have lT:(TZ++a).length=5+a.length:=by rw[oH2];rfl
 obtain⟨t,e,p1,p2,h⟩:=zP1 a v (by omega) ha;obtain⟨⟨m,b,n1,n2,n3,n4⟩,n5⟩:=vJ1 a
 have l8:∀n:Int,e=0→aA.l8 (mkS v) true 1 n y=some (1,(n,t,y.2.2.1,y.2.2.2.1,y.2.2.2.2.1,y.2.2.2.2.2.1,y.2.2.2.2.2.2.1,()),()):=fun n h0=>by rw[aA.l8_eq];simp(disch:=omega)only[ss,p2,aA.l9_eq,aA.l10_eq]
 have l8n:∀n:Int,¬e=0 → ∃y2,aA.l8 (mkS v) true 1 n y=some (0,y2,()):=fun n h0=>by rw[aA.l8_eq];simp(disch:=omega)only[ss,p2,aA.l9_eq,aA.l10_eq];exact⟨_,rfl⟩
 rcases h with⟨n,hn,g⟩ | ⟨hn,n,g⟩
 ·have hne:a≠[]:=fun e=>pB2 n (e ▸ hn)
  have hpos:0<a.length:=hK2.2 hne;have h6:=n5 n hn;have h7:=(qN n).2 hn.2;rw[←hn.1]at h7;have w5:w6 (((TZ++a).length:Int)-5)=(a.length:Int):=by rw[lT,wr (by omega) (by omega)];omega
  have ref:aA.l4 (mkS (TZ++a)) (mkS v) true 1 y=aA.l8 (mkS v) true 1 n y:=by
   rw[aA.l4_eq];by_cases c1:n<0
   ·rw[if_pos c1]at h7;by_cases c2:(a.length:Int)>9
    ·simp(disch:=omega)only[ss,szS,hx,hx2,q,iE,h6,w5,aA.l5_eq,aA.l6_eq,aA.l7_eq]
    ·simp(disch:=omega)only[ss,szS,hx,hx2,q,iE,h6,w5,aA.l5_eq,aA.l6_eq,aA.l7_eq]
   ·rw[if_neg c1]at h7;simp(disch:=omega)only[ss,szS,hx,hx2,q,iE,h6,w5,aA.l5_eq,aA.l6_eq,aA.l7_eq]
  rw[ref,rD.f_eq];by_cases c:e=0
  ·rw[l8 n c];simp(disch:=omega)only[ss,g];exact .inl ⟨(n,t,y.2.2.1,y.2.2.2.1,y.2.2.2.2.1,y.2.2.2.2.2.1,y.2.2.2.2.2.2.1,()),hy,rfl,rfl⟩
  ·obtain⟨y2,h2⟩:=l8n n c;rw[h2];simp(disch:=omega)only[ss,g];exact .inr ⟨_,_,rfl,rfl⟩
 ·have w5:w6 (((TZ++a).length:Int)-5)=(a.length:Int):=by rw[lT,wr (by omega) (by omega)];omega
  have ref:∃y2,aA.l4 (mkS (TZ++a)) (mkS v) true 1 y=some (0,y2,()):=by
   refine⟨y,?_⟩;rw[aA.l4_eq];by_cases c0:a.length=0
   ·simp(disch:=omega)only[ss,szS,aA.l5_eq,aA.l6_eq,aA.l7_eq]
   ·cases b with
    | false=>simp(disch:=omega)only[ss,szS,hx,hx2,q,iE,n1,aA.l5_eq,aA.l6_eq,aA.l7_eq]
    | true=>
     have he:=n4 rfl;have h7:¬((a.length:Int)-(if m<0 then 1 else 0)≤9):=fun q=>hn m ⟨he,(qN m).1 (by rw[←he];exact q)⟩
     by_cases c1:m<0
     ·rw[if_pos c1]at h7;simp(disch:=omega)only[ss,szS,hx,hx2,q,iE,n1,w5,aA.l5_eq,aA.l6_eq,aA.l7_eq]
     ·rw[if_neg c1]at h7;simp(disch:=omega)only[ss,szS,hx,hx2,q,iE,n1,w5,aA.l5_eq,aA.l6_eq,aA.l7_eq]
  obtain⟨y2,h2⟩:=ref;rw[h2,rD.f_eq];simp(disch:=omega)only[ss,g];exact .inr ⟨_,_,rfl,rfl⟩
theorem tV1 (X:List ByteArray) (w:List UInt8) (k nx i:Nat) (y:Mt) (hk:k<5) (hi:i<1000000) (h:(2≤nx∧nx≤k)∨k=nx):
  QB X (mkS (Fr k++w)) (nx:Int) (i:Int) y=(rD.f y (k:Int) (mkS w)).bind fun t=>QC X k i (!t.1) t.2.1:=by
 have base:QB X (mkS (Fr k++w)) (k:Int) (i:Int) y=(rD.f y (k:Int) (mkS w)).bind fun t=>QC X k i (!t.1) t.2.1:=by rw[gK1 X _ k i y hk hi (cC1 k w),qJ2]
 have up:∀(d a:Nat),k-a=d→2≤a→a≤k→QB X (mkS (Fr k++w)) (a:Int) (i:Int) y=QB X (mkS (Fr k++w)) (k:Int) (i:Int) y:=by
  intro d
  induction d with
  | zero=>
   intro a h1 h2 h3;have:a=k:=by omega
   rw[this]
  | succ d ihd=>
   intro a h1 h2 h3;rw[tB2 _ _ a i y (by omega) h2 (cA2 a k (by omega) hk (by omega) w)];exact ihd (a+1) (by omega) (by omega) (by omega)
 rcases h with⟨c1,c2⟩ | rfl
 ·exact(up _ nx rfl c1 c2).trans base
 ·exact base
theorem bU1 (X:List ByteArray) (s:List UInt8) (i:Nat) (y:Mt):∀(d a:Nat),5-a=d→2≤a→a≤5→(∀j,a≤j→j<5→pf (Fr j) s=false)→QB X (mkS s) (a:Int) (i:Int) y=bad9 i:=by
 intro d
 induction d with
 | zero=>
  intro a h1 h2 h3 h4;have:a=5:=by omega
  subst this;exact zX1 _ _ i y
 | succ d ihd=>
  intro a h1 h2 h3 h4;rw[tB2 _ _ a i y (by omega) h2 (h4 a (yH2 _) (by omega))];exact ihd (a+1) (by omega) (by omega) (by omega) fun j h5 h6=>h4 j (by omega) h6
theorem nZ1 (X:List ByteArray) (w:List UInt8) (k nx i:Nat) (y:Mt) (hk:k<5) (hx:nx≤5) (h:¬((2≤nx∧nx≤k)∨k=nx)):QB X (mkS (Fr k++w)) (nx:Int) (i:Int) y=bad9 i:=by
 by_cases c2:2≤nx
 ·exact bU1 X _ i y _ nx rfl c2 hx fun j h1 h2=>cA2 j k h2 hk (by omega) w
 ·exact sB1 _ _ nx i y (by omega) (cA2 nx k (by omega) hk (by omega) w)
theorem kU (X:List ByteArray) (s:List UInt8) (nx i:Nat) (y:Mt) (hx:nx≤5) (h:∀j,j<5→pf (Fr j) s=false):QB X (mkS s) (nx:Int) (i:Int) y=bad9 i:=by
 by_cases c2:2≤nx
 ·exact bU1 X _ i y _ nx rfl c2 hx fun j _ h2=>h j h2
 ·exact sB1 _ _ nx i y (by omega) (h nx (by omega))
theorem iO {k:Nat} {s:List UInt8} (h:pf (Fr k) s=true):s=Fr k++s.drop (Fr k).length:=by
 unfold pf at h;have:=of_decide_eq_true h
 conv=>lhs;rw[←eJ2 (Fr k).length s,this]
theorem iV1 (k:Nat) (h1:1≤k) (h5:k<5):Fr k=Nm (k+1)++[58]∧58∉Nm (k+1)∧59∉Nm (k+1):=by
 have:k=1∨k=2∨k=3∨k=4:=by omega
 rcases this with rfl | rfl | rfl | rfl <;> exact⟨by decide,by decide,by decide⟩
theorem Fr_0 :Fr 0=Nm 1++59::TZ:=rfl
def Rel (X:List ByteArray) (i:Nat) (r:Option (Int×Mt×Unit)) (q:Rs):Prop:=
 (∃y',r=some (0,y',())∧q=bad9 i) ∨ ∃k y',k<5∧jG y'∧r=some (((k+1:Nat):Int),y',())∧q=QA X ((k+1:Nat):Int) ((i+1:Nat):Int) y'
theorem cY1 (X:List ByteArray) (k i:Nat) (hk:k<5) {a:Option (Bool×Mt×Unit)} {b:Option (Int×Mt×Unit)} (h:VB ((k+1:Nat):Int) a b):Rel X i b (a.bind fun t=>QC X k i (!t.1) t.2.1):=by
 rcases h with⟨y',h1,rfl,rfl⟩ | ⟨y1,y2,rfl,rfl⟩
 ·exact .inr ⟨k,y',hk,h1,rfl,rfl⟩
 ·exact .inl ⟨y2,rfl,rfl⟩
theorem zD1 (X:List ByteArray) (s:List UInt8) (nx i:Nat) (y:Mt) (hi:i<1000000) (hx:nx≤5) (hl:s.length≤4096) (hy:jG y):Rel X i (aA.f y (mkS s) (nx:Int)) (QB X (mkS s) (nx:Int) (i:Int) y):=by
 have q0:(⟨#[]⟩:ByteArray)=mkS []:=rfl;rw[aA.f_eq];rcases kG2 s with h | ⟨a,v,rfl,ha,hb⟩ | ⟨n,p,v,rfl,hn,hb,hp⟩
 ·-- no name
  have hN:=dN1 (s:=s) (by omega) h;have hq:QB X (mkS s) (nx:Int) (i:Int) y=bad9 i:=by
   by_cases c:pf (Fr 0) s=true
   ·have e:=iO c;rw[e];by_cases c2:nx=0
    ·have h58:58∉s.drop (Fr 0).length:=fun q=>h (List.mem_of_mem_drop q)
     obtain⟨m,t,hr⟩:=hM1 (s.drop (Fr 0).length) (by rw[qI2];omega) h58;rw[tV1 X _ 0 nx i y (by omega) hi (.inr c2.symm),rD.f_eq];simp(disch:=omega)only[ss,hr];rfl
    ·exact nZ1 X _ 0 nx i y (by omega) hx (by omega)
   ·refine kU X s nx i y hx fun j hj=>?_
    cases hpf:pf (Fr j) s with
    | false=>rfl
    | true=>
     have e:=iO hpf;by_cases cj:j=0
     ·subst cj;exact absurd hpf c
     ·exact absurd (show 58∈s by rw[e,(iV1 j (by omega) hj).1];simp) h
  rw[hN,hq];simp only[pH2];refine .inl ⟨y,?_,rfl⟩;have e1:=aH1 (mkS s) (nx:Int) [] (mkS []) (mkS []) false y fun q=>by cases q
  have e2:=zS s [] [] [] (by omega) (by simp) (by simp) (by simp) nx hx false y 0 (by omega);exact e1.trans e2
 ·-- a name
  have hll:(a++58::v).length=a.length+v.length+1:=by simp;omega
  have hN:=yS1 a v (by omega) ha hb;rw[hN];simp only[pH2];by_cases c:∃j,1≤j∧j≤5∧a=Nm j
  ·obtain⟨j,j1,j5,rfl⟩:=c;rw[show aA.l1 (mkS (Nm j++58::v)) (nx:Int) (mkS (Nm j)) (mkS []) (mkS v) true 0 1 y [⟨#[]⟩,⟨#[68,84,83,84,65,82,84]⟩,⟨#[68,85,82,65,84,73,79,78]⟩,⟨#[82,82,85,76,69]⟩,⟨#[82,68,65,84,69]⟩,⟨#[69,88,68,65,84,69]⟩]=_ from gH1 _ _ _ _ _ y j ⟨j1,j5⟩ rfl];by_cases cj:j=1
   ·subst cj
    have hq:QB X (mkS (Nm 1++58::v)) (nx:Int) (i:Int) y=bad9 i:=kU X _ nx i y hx fun j hj=>by
     cases hpf:pf (Fr j) (Nm 1++58::v)with
     | false=>rfl
     | true=>
      exfalso;unfold pf at hpf;have e:=of_decide_eq_true hpf;have:j=0∨j=1∨j=2∨j=3∨j=4:=by omega
      rcases this with rfl | rfl | rfl | rfl | rfl <;> simp[Fr,F0,F1,F2,F3,F4,Nm]at e
    rw[hq];refine .inl ⟨y,?_,rfl⟩;by_cases c0:nx=0
    ·have:=qB1 (Nm 1++58::v) (Nm 1) [] v (by omega) (by decide) (by simp) (by omega) nx hx true y c0;rw[if_neg (by simp)]at this;exact this
    ·exact zS (Nm 1++58::v) (Nm 1) [] v (by omega) (by decide) (by simp) (by omega) nx hx true y 1 (by omega)
   ·obtain⟨k,rfl⟩:∃k,j=k+1:=⟨j-1,by omega⟩
    have hF:=iV1 k (by omega) (by omega);have hs:Nm (k+1)++58::v=Fr k++v:=by rw[hF.1];simp
    have hnl:(Nm (k+1)).length≤100000:=by omega
    by_cases co:(2≤nx∧nx≤k)∨k=nx
    ·have e1:=pR1 (Nm (k+1)++58::v) (Nm (k+1)) [] v (by omega) hnl (by simp) (by omega) nx hx true y (k+1) (by omega) (by omega) (by omega) (by omega);rw[if_pos rfl]at e1;rw[e1,hs,tV1 X v k nx i y (by omega) hi co];exact cY1 X k i (by omega) (oM1 y k v (mkS []) (by omega) (by omega) (by omega) hy)
    ·rw[hs,nZ1 X v k nx i y (by omega) hx co];refine .inl ⟨y,?_,rfl⟩;by_cases c1:k+1≤nx
     ·exact zS (Fr k++v) (Nm (k+1)) [] v (by rw[←hs];omega) hnl (by simp) (by omega) nx hx true y (k+1) c1
     ·exact oS1 (Fr k++v) (Nm (k+1)) [] v (by rw[←hs];omega) hnl (by simp) (by omega) nx hx true y (k+1) (by omega) (by omega) (by omega) (by omega)
  ·have hno:∀j,1≤j→j≤5→a≠Nm j:=fun j h1 h2 e=>c ⟨j,h1,h2,e⟩
   have hq:QB X (mkS (a++58::v)) (nx:Int) (i:Int) y=bad9 i:=kU X _ nx i y hx fun j hj=>by
    cases hpf:pf (Fr j) (a++58::v)with
    | false=>rfl
    | true=>
     exfalso;have e:=iO hpf;by_cases cj:j=0
     ·subst cj;rw[Fr_0,dI2]at e;rcases gL2.1 e with⟨z,e1,e2⟩ | ⟨z,e1,e2⟩
      ·cases z with
       | nil=>simp at e2
       | cons x z=>
        simp at e2;rw[←e2.1]at e1;exact absurd (show 58∈Nm 1 by rw[e1];simp) (by decide)
      ·cases z with
       | nil=>simp at e2
       | cons x z=>
        simp at e2;rw[e1,←e2.1]at hb;exact hb (by simp)
     ·have hF:=iV1 j (by omega) hj;rw[hF.1,dI2]at e;rcases gL2.1 e with⟨z,e1,e2⟩ | ⟨z,e1,e2⟩
      ·cases z with
       | nil=>exact hno (j+1) (by omega) (by omega) (by rw[bI2]at e1;exact e1.symm)
       | cons x z=>
        simp at e2;rw[←e2.1]at e1;exact absurd (show 58∈Nm (j+1) by rw[e1];simp) hF.2.1
      ·cases z with
       | nil=>exact hno (j+1) (by omega) (by omega) (by rw[bI2]at e1;exact e1)
       | cons x z=>
        simp at e2;rw[e1,←e2.1]at ha;exact ha (by simp)
   rw[hq];refine .inl ⟨y,?_,rfl⟩;have e1:=aH1 (mkS (a++58::v)) (nx:Int) a (mkS []) (mkS v) true y fun _=>hno
   have e2:=zS (a++58::v) a [] v (by omega) (by omega) (by simp) (by omega) nx hx true y 0 (by omega);exact e1.trans e2
 ·-- a name and a parameter
  have hll:(n++59::p++58::v).length=n.length+p.length+v.length+2:=by simp;omega
  have hN:=lQ1 n p v (by omega) hn hb hp;rw[hN];simp only[pH2];by_cases cn:n=Nm 1
  ·subst cn;rw[show aA.l1 (mkS (Nm 1++59::p++58::v)) (nx:Int) (mkS (Nm 1)) (mkS p) (mkS v) true 0 1 y [⟨#[]⟩,⟨#[68,84,83,84,65,82,84]⟩,⟨#[68,85,82,65,84,73,79,78]⟩,⟨#[82,82,85,76,69]⟩,⟨#[82,68,65,84,69]⟩,⟨#[69,88,68,65,84,69]⟩]=_ from gH1 _ _ _ _ _ y 1 ⟨by omega,by omega⟩ rfl];by_cases ct:∃a,p=TZ++a
   ·obtain⟨a,rfl⟩:=ct;have hs:Nm 1++59::(TZ++a)++58::v=Fr 0++(a++58::v):=by rw[Fr_0];simp
    have ha:58∉a:=fun q=>hp (nI2 _ q)
    have hal:(TZ++a).length=5+a.length:=by rw[oH2];rfl
    by_cases c0:nx=0
    ·have e1:=qB1 (Nm 1++59::(TZ++a)++58::v) (Nm 1) (TZ++a) v (by omega) (by decide) (by omega) (by omega) nx hx true y c0;rw[if_pos rfl]at e1;rw[show(((1:Nat):Int))=1 from rfl,e1,hs,tV1 X _ 0 nx i y (by omega) hi (.inr c0.symm)];exact cY1 X 0 i (by omega) (sH1 y a v (by omega) ha hy)
    ·rw[hs,nZ1 X _ 0 nx i y (by omega) hx (by omega)];refine .inl ⟨y,?_,rfl⟩;exact zS _ (Nm 1) (TZ++a) v (by rw[←hs];omega) (by decide) (by omega) (by omega) nx hx true y 1 (by omega)
   ·have hq:QB X (mkS (Nm 1++59::p++58::v)) (nx:Int) (i:Int) y=bad9 i:=kU X _ nx i y hx fun j hj=>by
     cases hpf:pf (Fr j) (Nm 1++59::p++58::v)with
     | false=>rfl
     | true=>
      exfalso;have e:=iO hpf;by_cases cj:j=0
      ·subst cj;rw[Fr_0,dI2,dI2]at e;have e:=List.append_cancel_left e;simp only[nL2]at e;injection e with _ e;rcases gL2.1 e with⟨z,e1,e2⟩ | ⟨z,e1,e2⟩
       ·cases z with
        | nil=>exact ct ⟨[],by rw[bI2]at e1 ⊢;exact e1.symm⟩
        | cons x z=>
         simp at e2;rw[←e2.1]at e1;exact absurd (show 58∈TZ by rw[e1];simp) (by decide)
       ·exact ct ⟨z,e1⟩
      ·unfold pf at hpf;have e:=of_decide_eq_true hpf;have:j=1∨j=2∨j=3∨j=4:=by omega
       rcases this with rfl | rfl | rfl | rfl <;> simp[Fr,F0,F1,F2,F3,F4,Nm]at e
    rw[hq];refine .inl ⟨y,?_,rfl⟩;by_cases c0:nx=0
    ·have e1:=qB1 (Nm 1++59::p++58::v) (Nm 1) p v (by omega) (by decide) (by omega) (by omega) nx hx true y c0;rw[if_pos rfl,uT1 y p v (by omega) fun a e=>ct ⟨a,e⟩]at e1;exact e1
    ·exact zS _ (Nm 1) p v (by omega) (by decide) (by omega) (by omega) nx hx true y 1 (by omega)
  ·have hq:QB X (mkS (n++59::p++58::v)) (nx:Int) (i:Int) y=bad9 i:=kU X _ nx i y hx fun j hj=>by
    cases hpf:pf (Fr j) (n++59::p++58::v)with
    | false=>rfl
    | true=>
     exfalso;have e:=iO hpf;rw[dI2]at e;by_cases cj:j=0
     ·subst cj;rw[Fr_0,dI2]at e;rcases gL2.1 e with⟨z,e1,e2⟩ | ⟨z,e1,e2⟩
      ·cases z with
       | nil=>exact cn (by rw[bI2]at e1;exact e1.symm)
       | cons x z=>
        simp at e2;rw[←e2.1]at e1;exact absurd (show 59∈Nm 1 by rw[e1];simp) (by decide)
      ·cases z with
       | nil=>exact cn (by rw[bI2]at e1;exact e1)
       | cons x z=>
        simp at e2;rw[e1,←e2.1]at hb;exact hb (by simp)
     ·have hF:=iV1 j (by omega) hj;rw[hF.1,dI2]at e;rcases gL2.1 e with⟨z,e1,e2⟩ | ⟨z,e1,e2⟩
      ·cases z with
       | nil=>simp at e2
       | cons x z=>
        simp at e2;rw[←e2.1]at e1;exact absurd (show 59∈Nm (j+1) by rw[e1];simp) hF.2.2
      ·cases z with
       | nil=>simp at e2
       | cons x z=>
        simp at e2;rw[e1,←e2.1]at hn;exact hn (by simp)
   rw[hq];refine .inl ⟨y,?_,rfl⟩;by_cases c:∃j,2≤j∧j≤5∧n=Nm j
   ·obtain⟨j,j2,j5,rfl⟩:=c;rw[show aA.l1 (mkS (Nm j++59::p++58::v)) (nx:Int) (mkS (Nm j)) (mkS p) (mkS v) true 0 1 y [⟨#[]⟩,⟨#[68,84,83,84,65,82,84]⟩,⟨#[68,85,82,65,84,73,79,78]⟩,⟨#[82,82,85,76,69]⟩,⟨#[82,68,65,84,69]⟩,⟨#[69,88,68,65,84,69]⟩]=_ from gH1 _ _ _ _ _ y j ⟨by omega,j5⟩ rfl];have hnl:(Nm j).length≤100000:=by omega
    by_cases c1:j≤nx
    ·exact zS _ (Nm j) p v (by omega) hnl (by omega) (by omega) nx hx true y j c1
    ·by_cases c2:2≤nx∨j=nx+1
     ·have e1:=pR1 (Nm j++59::p++58::v) (Nm j) p v (by omega) hnl (by omega) (by omega) nx hx true y j (by omega) c2 j5 (by omega);rw[if_neg (by simp)]at e1;exact e1
     ·exact oS1 _ (Nm j) p v (by omega) hnl (by omega) (by omega) nx hx true y j (by omega) (by omega) (by omega) j5
   ·have hno:∀j,1≤j→j≤5→n≠Nm j:=fun j h1 h2 e=>by
     by_cases cj:j=1
     ·subst cj;exact cn e
     ·exact c ⟨j,by omega,h2,e⟩
    have e1:=aH1 (mkS (n++59::p++58::v)) (nx:Int) n (mkS p) (mkS v) true y fun _=>hno
    have e2:=zS (n++59::p++58::v) n p v (by omega) (by omega) (by omega) (by omega) nx hx true y 0 (by omega);exact e1.trans e2
set_option maxRecDepth 1000000
abbrev r0 :Int×Int×Int×Int×Int×Bool×List Int×List Int×List Int×List Int×List (Int×Int×Unit)×List Int×List Int×List Int×List Int×Unit:=(3,1,2,0,0,false,[],[],[],[],[],[],[],[],[],())
theorem eG2 :iB.f ⟨#[50,48,50,54,48,51,48,49,84,48,48,48,48,48,48]⟩=some (1772323200,0,()):=zC (E:=E) (f:=62) rfl (D:=c62) (c:=b62) (by kernel_rfl) (by kernel_rfl) _ 100 (by kernel_rfl)
theorem ex_a :iB.f ⟨#[50,48,50,54,48,49,48,53,84,48,56,48,48,48,48]⟩=some (1767600000,0,()):=zC (E:=E) (f:=62) rfl (D:=c62) (c:=b62) (by kernel_rfl) (by kernel_rfl) _ 100 (by kernel_rfl)
theorem ex_b :iB.f ⟨#[50,48,50,54,48,49,49,50,84,48,56,48,48,48,48]⟩=some (1768204800,0,()):=zC (E:=E) (f:=62) rfl (D:=c62) (c:=b62) (by kernel_rfl) (by kernel_rfl) _ 100 (by kernel_rfl)
theorem xG2 :aU.f (3600,[],[],0,()) 1767603600=some (1767600000,()):=zC (E:=E) (f:=39) rfl (D:=c39) (c:=b39) (by kernel_rfl) (by kernel_rfl) _ 100 (by kernel_rfl)
theorem iF2 :aU.f (3600,[],[],0,()) 1768208400=some (1768204800,()):=zC (E:=E) (f:=39) rfl (D:=c39) (c:=b39) (by kernel_rfl) (by kernel_rfl) _ 100 (by kernel_rfl)
theorem ex_z :kC1.f (3600,[],[],0,())=some (true,()):=zC (E:=E) (f:=83) rfl (D:=c83) (c:=b83) (by kernel_rfl) (by kernel_rfl) _ 100 (by kernel_rfl)
theorem ex_m :vD.f (0,1767603600,3600,true,r0,[],[],())=some (true,()):=zC (E:=E) (f:=36) rfl (D:=c36) (c:=b36) (by kernel_rfl) (by kernel_rfl) _ 100 (by kernel_rfl)
set_option maxRecDepth 1000000
abbrev exA :List UInt8:=[48,58,50,48,50,54,48,49,48,53,84,48,57,48,48,48,48]
abbrev exB :List UInt8:=[80,84,49,72]
abbrev exR :List UInt8:=[70,82,69,81,61,87,69,69,75,76,89,59,67,79,85,78,84,61,50]
abbrev exT :List UInt8:=(F0++exA)++13::10::((F1++exB)++13::10::((F2++exR)++[13,10]))
theorem dU1 :dE.f ⟨#[48,58,50,48,50,54,48,49,48,53,84,48,57,48,48,48,48]⟩=some (0,1767603600,true,()):=zC (E:=E) (f:=169) rfl (D:=c169) (c:=b169) (by kernel_rfl) (by kernel_rfl) _ 100 (by kernel_rfl)
theorem nE2 :gA.f ⟨#[80,84,49,72]⟩=some (3600,0,()):=zC (E:=E) (f:=170) rfl (D:=c170) (c:=b170) (by kernel_rfl) (by kernel_rfl) _ 100 (by kernel_rfl)
theorem oB2 :yA.f ⟨#[70,82,69,81,61,87,69,69,75,76,89,59,67,79,85,78,84,61,50]⟩=some (r0,0,0,()):=zC (E:=E) (f:=49) rfl (D:=c49) (c:=b49) (by kernel_rfl) (by kernel_rfl) _ 100 (by kernel_rfl)
theorem hX1 :lC.f (I exT)=some ([F0++exA,F1++exB,F2++exR].map mkS,0,0,()):=by
 have hg:∀i,i<exT.length→bad exT i=false:=by decide
 have hl:exT.length≤4096:=by decide
 have:=iM hl hg;have e:fN [] (zF exT)=[F0++exA,F1++exB,F2++exR]:=by decide
 rw[e]at this;exact this
theorem ex_p :lA.f [68,84,83,84,65,82,84,59,84,90,73,68,61,48,58,50,48,50,54,48,49,48,53,84,48,57,48,48,48,48,13,10,68,85,82,65,84,73,79,78,58,80,84,49,72,13,10,82,82,85,76,69,58,70,82,69,81,61,87,69,69,75,76,89,59,67,79,85,78,84,61,50,13,10]=some ((0,1767603600,3600,true,r0,[],[],()),0,0,()):=by
 have hs:lC.f [68,84,83,84,65,82,84,59,84,90,73,68,61,48,58,50,48,50,54,48,49,48,53,84,48,57,48,48,48,48,13,10,68,85,82,65,84,73,79,78,58,80,84,49,72,13,10,82,82,85,76,69,58,70,82,69,81,61,87,69,69,75,76,89,59,67,79,85,78,84,61,50,13,10]=some ([F0++exA,F1++exB,F2++exR].map mkS,0,0,()):=hX1;obtain⟨X,hX⟩:∃X,X=[F0++exA,F1++exB,F2++exR].map mkS:=⟨_,rfl⟩
 have hl:X.length=3:=by rw[hX];rfl
 have g0:X.getD 0 ByteArray.empty=mkS (Fr 0++exA):=by rw[hX];rfl
 have g1:X.getD 1 ByteArray.empty=mkS (Fr 1++exB):=by rw[hX];rfl
 have g2:X.getD 2 ByteArray.empty=mkS (Fr 2++exR):=by rw[hX];rfl
 have r1:rD.f zM 0 (mkS exA)=some (true,(0,1767603600,0,false,zR,[],[],()),()):=by rw[rD.f_eq];simp(disch:=omega)only[ss,show dE.f (mkS exA)=_ from dU1]
 have r2:rD.f (0,1767603600,0,false,zR,[],[],()) ((1:Nat):Int) (mkS exB)=some (true,(0,1767603600,3600,false,zR,[],[],()),()):=by rw[rD.f_eq];simp(disch:=omega)only[ss,show gA.f (mkS exB)=_ from nE2]
 have r3:rD.f (0,1767603600,3600,false,zR,[],[],()) ((2:Nat):Int) (mkS exR)=some (true,(0,1767603600,3600,true,r0,[],[],()),()):=by rw[rD.f_eq];simp(disch:=omega)only[ss,show yA.f (mkS exR)=_ from oB2]
 have hm:vD.f (0,1767603600,3600,true,r0,[],[],())=some (true,()):=ex_m;rw[lA.f_eq,hs,←hX];simp only[pH2,decide_true,cJ2,cond_false];rw[jI1 X _ (by omega) g0,show pf F0 (Fr 0++exA)=true from cC1 0 exA,cond_true,show(Fr 0++exA).drop F0.length=exA from qJ2 (l₁:=F0),r1];simp only[pH2];show QA X ((1:Nat):Int) ((1:Nat):Int) _=_;rw[mU1 X _ 1 1 _ (by omega) g1,gK1 X _ 1 1 _ (by omega) (by omega) (cC1 1 exB),qJ2,r2];simp only[pH2];show QA X ((2:Nat):Int) ((2:Nat):Int) _=_;rw[mU1 X _ 2 2 _ (by omega) g2,gK1 X _ 2 2 _ (by omega) (by omega) (cC1 2 exR),qJ2,r3];simp only[pH2];show QA X ((3:Nat):Int) ((3:Nat):Int) _=_;have:=qR1 X 3 (0,1767603600,3600,true,r0,[],[],());rw[hl,if_neg (by omega),hm]at this;exact this
set_option maxRecDepth 1000000
abbrev exD :Int×Int×Int×Int×Int×Unit:=(20458,2026,1,5,0,())
abbrev exP :(Int×Int×Int×Int×Int×Bool×List Int×List Int×List Int×List Int×List (Int×Int×Unit)×List Int×List Int×List Int×List Int×Unit)×((Int×Int×Int×Int×Int×Bool×List Int×List Int×List Int×List Int×List (Int×Int×Unit)×List Int×List Int×List Int×List Int×Unit)×Int×(Int×Int×Int×Int×Int×Unit)×Int×Unit)×Int×List Int×List Int×List Int×Unit:=(r0,(r0,1767603600,exD,32400,()),1767603600,[9],[0],[0],())
theorem tA2 :mW.f r0 1767603600 1772496000=some (exP,true,()):=zC (E:=E) (f:=65) rfl (D:=c65) (c:=b65) (by kernel_rfl) (by kernel_rfl) _ 120 (by kernel_rfl)
theorem rF2 :pH.f (r0,1767603600,exD,32400,()) 1767603600=some (20458,20464,()):=zC (E:=E) (f:=205) rfl (D:=c205) (c:=b205) (by kernel_rfl) (by kernel_rfl) _ 60 (by kernel_rfl)
theorem jG2 :pH.f (r0,1767603600,exD,32400,()) 1768176000=some (20465,20471,()):=zC (E:=E) (f:=205) rfl (D:=c205) (c:=b205) (by kernel_rfl) (by kernel_rfl) _ 60 (by kernel_rfl)
theorem hG2 :dL.f exP 1767603600=some (true,()):=zC (E:=E) (f:=206) rfl (D:=c206) (c:=b206) (by kernel_rfl) (by kernel_rfl) _ 60 (by kernel_rfl)
theorem pG2 :dL.f exP 1768176000=some (true,()):=zC (E:=E) (f:=206) rfl (D:=c206) (c:=b206) (by kernel_rfl) (by kernel_rfl) _ 60 (by kernel_rfl)
theorem gF2 :fE.f exP 20458=some (true,()):=zC (E:=E) (f:=208) rfl (D:=c208) (c:=b208) (by kernel_rfl) (by kernel_rfl) _ 60 (by kernel_rfl)
theorem nG2 :fE.f exP 20459=some (false,()):=zC (E:=E) (f:=208) rfl (D:=c208) (c:=b208) (by kernel_rfl) (by kernel_rfl) _ 60 (by kernel_rfl)
theorem gG2 :fE.f exP 20460=some (false,()):=zC (E:=E) (f:=208) rfl (D:=c208) (c:=b208) (by kernel_rfl) (by kernel_rfl) _ 60 (by kernel_rfl)
theorem aH2 :fE.f exP 20461=some (false,()):=zC (E:=E) (f:=208) rfl (D:=c208) (c:=b208) (by kernel_rfl) (by kernel_rfl) _ 60 (by kernel_rfl)
theorem kH2 :fE.f exP 20462=some (false,()):=zC (E:=E) (f:=208) rfl (D:=c208) (c:=b208) (by kernel_rfl) (by kernel_rfl) _ 60 (by kernel_rfl)
theorem yG2 :fE.f exP 20463=some (false,()):=zC (E:=E) (f:=208) rfl (D:=c208) (c:=b208) (by kernel_rfl) (by kernel_rfl) _ 60 (by kernel_rfl)
theorem fG2 :fE.f exP 20464=some (false,()):=zC (E:=E) (f:=208) rfl (D:=c208) (c:=b208) (by kernel_rfl) (by kernel_rfl) _ 60 (by kernel_rfl)
theorem dH2 :fE.f exP 20465=some (true,()):=zC (E:=E) (f:=208) rfl (D:=c208) (c:=b208) (by kernel_rfl) (by kernel_rfl) _ 60 (by kernel_rfl)
theorem cH2 :bK.f exP 20458 0 86400 100000 ()=some ([1767603600],(),()):=zC (E:=E) (f:=100003) rfl (D:=iA1) (c:=nP1) (by kernel_rfl) (by kernel_rfl) _ 60 (by kernel_rfl)
theorem bG2 :bK.f exP 20465 0 86400 100000 ()=some ([1768208400],(),()):=zC (E:=E) (f:=100003) rfl (D:=iA1) (c:=nP1) (by kernel_rfl) (by kernel_rfl) _ 60 (by kernel_rfl)
abbrev exC (l:List Int):(Int×Unit)×(Int×Unit)×((((List Int)×Unit)×(Int×Unit)×Unit)×Unit)×Unit:=((1767603600,()),(1772496000,()),(((l,()),(2,()),()),()),())
theorem fF2 :sG.f [1767603600] (1767603600,()) (1772496000,()) ((([],()),(2,()),()),())=some (true,(1767603600,()),(1772496000,()),((([1767603600],()),(2,()),()),()),()):=zC (E:=E) (f:=100007) rfl (D:=sZ) (c:=cU1) (by kernel_rfl) (by kernel_rfl) _ 60 (by kernel_rfl)
theorem vG2 :sG.f [1768208400] (1767603600,()) (1772496000,()) ((([1767603600],()),(2,()),()),())=some (false,(1767603600,()),(1772496000,()),((([1767603600,1768208400],()),(2,()),()),()),()):=zC (E:=E) (f:=100007) rfl (D:=sZ) (c:=cU1) (by kernel_rfl) (by kernel_rfl) _ 60 (by kernel_rfl)
theorem bF2 :bI.f 1767603600=some (20458,32400,()):=zC (E:=E) (f:=122) rfl (D:=c122) (c:=b122) (by kernel_rfl) (by kernel_rfl) _ 60 (by kernel_rfl)
theorem aE2 :bI.f 1772496000=some (20515,0,()):=zC (E:=E) (f:=122) rfl (D:=c122) (c:=b122) (by kernel_rfl) (by kernel_rfl) _ 60 (by kernel_rfl)
theorem pM1 (d:Int) (h0:20458≤d) (hd:d≤20464) (hf:fE.f exP d=some (false,())):vA.l1 20464 20515 d 1767603600 1772496000 2 [1767603600] exP=vA.l1 20464 20515 (d+1) 1767603600 1772496000 2 [1767603600] exP:=by
 have hm:mm false 20464 20515=20464:=rfl
 conv=>lhs;rw[vA.l1_eq]
 simp(disch:=omega)only[ss,hm,hf,vA.l2_eq]
theorem zG2 :vA.f exP 1767603600 20458 20464 1767603600 1772496000 (exC [])=some (true,exC [1767603600],()):=by
 have hm:mm false 20464 20515=20464:=rfl;have h0:vA.f exP 1767603600 20458 20464 1767603600 1772496000 (exC [])=vA.l1 20464 20515 20458 1767603600 1772496000 2 [] exP:=by rw[vA.f_eq,bF2,aE2];rfl
 rw[h0,vA.l1_eq,hm,dp (by omega),cond_true,gF2];simp only[pH2,cond_true];rw[cH2];simp only[pH2];rw[fF2];simp only[pH2,cJ2];rw[vA.l2_eq,cond_false,wr (by omega) (by omega)]
 rw[show(20458+1:Int)=20459 from rfl,pM1 20459 (by omega) (by omega) nG2,show(20459+1:Int)=20460 from rfl,pM1 20460 (by omega) (by omega) gG2,show(20460+1:Int)=20461 from rfl,pM1 20461 (by omega) (by omega) aH2,
  show(20461+1:Int)=20462 from rfl,pM1 20462 (by omega) (by omega) kH2,show(20462+1:Int)=20463 from rfl,pM1 20463 (by omega) (by omega) yG2,show(20463+1:Int)=20464 from rfl,pM1 20464 (by omega) (by omega) fG2,show(20464+1:Int)=20465 from rfl]
 rw[vA.l1_eq,hm,dn (by omega),cond_false]
theorem uG2 :vA.f exP 1768176000 20465 20471 1767603600 1772496000 (exC [1767603600])=some (false,exC [1767603600,1768208400],()):=by
 have hm:mm false 20471 20515=20471:=rfl;have h0:vA.f exP 1768176000 20465 20471 1767603600 1772496000 (exC [1767603600])=vA.l1 20471 20515 20465 1767603600 1772496000 2 [1767603600] exP:=by rw[vA.f_eq,bF2,aE2];rfl
 rw[h0,vA.l1_eq,hm,dp (by omega),cond_true,dH2];simp only[pH2,cond_true];rw[bG2];simp only[pH2];rw[vG2];simp only[pH2,zJ2];rw[vA.l2_eq,cond_true]
theorem mA2 :gB.f exP 1767603600 1772496000 (exC [])=some (exC [1767603600,1768208400],()):=by rw[gB.f_eq,gB.l1_eq,dp (by omega),cond_true];rw[show pH.f exP.2.1 1767603600=_ from rF2];simp only[pH2];rw[hG2];simp only[pH2,cond_true];rw[zG2];simp only[pH2,cJ2];rw[gB.l2_eq,cond_false,wr (x:=20464+1) (by omega) (by omega),wr (by omega) (by omega),show((20464+1)*86400:Int)=1768176000 from rfl,gB.l1_eq,dp (by omega),cond_true];rw[show pH.f exP.2.1 1768176000=_ from jG2];simp only[pH2];rw[pG2];simp only[pH2,cond_true];rw[uG2];simp only[pH2,zJ2];rw[gB.l2_eq,cond_true]
theorem ex_l :gK.f r0 1767603600 1772496000 4096=some ([1767603600,1768208400],0,()):=by
 have hw:sD.f exP 1767603600 1772496000 (([],()),(2,()),())=some ((([1767603600,1768208400],()),(2,()),()),()):=by rw[sD.f_eq];dsimp only;rw[cond_false,show mm true 1767603600 1767603600=1767603600 from rfl,sD.l1_eq];dsimp only;rw[dp (by omega),cond_true,mA2];rfl
 have hf:aF.f exP r0 1767603600 1772496000 4097=some ([1767603600,1768208400],()):=by rw[aF.f_eq];dsimp only;rw[dp (by omega),cond_true,show mm false 4097 2=2 from rfl,aF.l1_eq,hw];rfl
 rw[gK.f_eq,tA2];simp only[pH2,cJ2,cond_false];rw[dn (by omega),cond_false,dn (by omega),cond_false,wr (by omega) (by omega),show(4096+1:Int)=4097 from rfl,hf];simp(disch:=omega)only[ss,zH2,hI2]
abbrev Sp :=Int×Int×Unit
def nrm (l:List Sp):Prop:=l.Pairwise (fun a b=>a.2.1<b.1) ∧ ∀s∈l,s.1<s.2.1
def push (out:List Sp) (s:Sp):List Sp:=match out.getLast? with
 | none=>[s]
 | some p=>if s.1≤p.2.1 then out.dropLast++[(p.1,mm true p.2.1 s.2.1,())]else out++[s]
theorem uU1 (s:Sp):push [] s=[s]:=rfl
theorem bD1 (o:List Sp) (p s:Sp):push (o++[p]) s=if s.1≤p.2.1 then o++[(p.1,mm true p.2.1 s.2.1,())]else o++[p]++[s]:=by simp[push]
theorem xX1 (out:List Sp) (s:Sp):(push out s).length≤out.length+1:=by
 rcases iY out with rfl | ⟨o,p,rfl⟩
 ·simp[push]
 ·rw[bD1];split <;> simp
structure Put (out:List Sp) (v:Int):Prop where
 nrm:nrm out
 lo:∀s∈out,s.1≤v
theorem wZ1 (l:List Sp) (h:l.length≤1000000) (hb:∀s∈l,(-1000000000000≤s.1∧s.1≤1000000000000) ∧ -1000000000000≤s.2.1∧s.2.1≤1000000000000):
  ∃r,rC.f l ()=some (r,(),())∧r.Perm l∧r.Pairwise (fun x y=>x.1≤y.1):=by
 have hall:l.all kO=true:=lJ2.2 fun d hd=>by have:=hb d hd;unfold kO Go.GV.small;simp only[sH2,decide_eq_true_eq];omega
 obtain⟨r,hr⟩:∃r:List Sp,gN kO zf86 cf86 l=some r:=by unfold gN;rw[hall];exact⟨_,rfl⟩
 have hp:List.Perm (α:=Sp) r l:=sN pS1 hr;have hso0:List.Pairwise (α:=Sp) (fun a b=>¬cf86 b a<0) r:=oS pS1 hr;refine⟨r,?_,hp,hso0.imp fun {a b} h=>?_⟩
 ·rw[rC.f_sem];show(bif decide (List.length l≤uC)then(gN kO zf86 cf86 l).map (fun ys=>(ys,(),()))else none)=_;rw[dp (by simp only[uC];omega),cond_true,hr];rfl
 ·have h2:=rJ1 b.1 a.1;have h3:decide (aV b.1 a.1<0)=false:=decide_eq_false h;rw[h3]at h2;have:=of_decide_eq_false h2.symm;omega
theorem lA2 (inn:List Sp) (hl:inn.length≤1000000):∀(k i:Nat) (out:List Sp),inn.length-i=k→i≤inn.length→out.length≤i →
  gE.l1 inn inn.length i out=some ((inn.drop i).foldl push out,()):=by
 have hlim:uC=17179869184:=rfl;intro k
 induction k with
 | zero=>
  intro i out hk hi ho;have e:i=inn.length:=by omega
  subst e;rw[gE.l1_eq];simp(disch:=omega)only[ss,fJ2,List.foldl_nil]
 | succ k ih=>
  intro i out hk hi ho;have hlt:i<inn.length:=by omega
  have hs:∀s:Sp,(s.1,s.2.1,())=s:=fun s=>rfl
  rw[gE.l1_eq,oC (0,0,()) hlt,List.foldl_cons];have hpl:=xX1 out (inn.getD i (0,0,()));rw[←ih (i+1) (push out (inn.getD i (0,0,()))) (by omega) (by omega) (by omega)];rcases iY out with rfl | ⟨o,p,rfl⟩
  ·rw[uU1];simp(disch:=omega)only[ss,hI2,eI2,gE.l2_eq,rH2,aJ2,hs,hlim];rfl
  ·rw[fJ1]at ho;rw[bD1];simp(disch:=omega)only[ss,fJ1,hJ2,gJ2,Int.add_sub_cancel,gE.l2_eq,rH2,hs,fV,oX1,hlim];by_cases hc:(inn.getD i (0,0,())).1≤p.2.1
   ·simp(disch:=omega)only[ss,if_pos hc]
   ·simp(disch:=omega)only[ss,if_neg hc]
theorem zV1 (l:List Sp) (hl:l.length≤1000000):gE.f l=some (l.foldl push [],()):=by have:=lA2 l hl _ 0 [] rfl (uH2 _) (yH2 _);rw[mI2,eI2]at this;rw[gE.f_eq];exact this
theorem kV1 (a b:List Sp) (hab:a.length=b.length) (hl:a.length≤1000000):∀(k i:Nat),a.length-i=k→i≤a.length→tC.l1 a b (i:Int)=some (decide (a.drop i=b.drop i),()):=by
 intro k
 induction k with
 | zero=>
  intro i hk hi;have e1:a.drop i=[]:=eK2 (by omega);have e2:b.drop i=[]:=eK2 (by omega);rw[tC.l1_eq,e1,e2];simp(disch:=omega)only[ss]
 | succ k ih=>
  intro i hk hi;have h1:i<a.length:=by omega
  have h2:i<b.length:=by omega
  have iff2:(a.drop i=b.drop i)↔((a.getD i (0,0,())).1=(b.getD i (0,0,())).1∧(a.getD i (0,0,())).2.1=(b.getD i (0,0,())).2.1)∧a.drop (i+1)=b.drop (i+1):=by
   rw[oC ((0,0,()):Sp) h1,oC ((0,0,()):Sp) h2,List.cons.injEq];constructor
   ·rintro⟨q1,q2⟩;rw[q1];exact⟨⟨rfl,rfl⟩,q2⟩
   ·rintro⟨⟨q1,q2⟩,q3⟩;exact⟨Prod.ext q1 (Prod.ext q2 rfl),q3⟩
  rw[tC.l1_eq];by_cases c1:(a.getD i (0,0,())).1=(b.getD i (0,0,())).1
  ·by_cases c2:(a.getD i (0,0,())).2.1=(b.getD i (0,0,())).2.1
   ·simp(disch:=omega)only[ss,tC.l2_eq];refine(ih (i+1) (by omega) (by omega)).trans ?_;rw[decide_eq_decide.2 (iff2.trans ⟨fun q=>q.2,fun q=>⟨⟨c1,c2⟩,q⟩⟩)]
   ·simp(disch:=omega)only[ss,tC.l2_eq];rw[dn (fun q=>c2 (iff2.1 q).1.2)]
  ·simp(disch:=omega)only[ss,tC.l2_eq];rw[dn (fun q=>c1 (iff2.1 q).1.1)]
theorem lV1 (a b:List Sp) (hl:a.length≤1000000):tC.f a b=some (decide (a=b),()):=by
 rw[tC.f_eq];by_cases c:a.length=b.length
 ·have:=kV1 a b c hl _ 0 rfl (uH2 _);rw[eI2,mI2,mI2]at this;simp(disch:=omega)only[ss];exact this
 ·simp(disch:=omega)only[ss];rw[dn (fun q=>c (by rw[q]))]
def spF (U:Int→Int) (du hi:Int) (L:List Int):List Sp:=(L.filter fun t=>decide (U t<hi)).map fun t=>(U t,U t+du,())
theorem kB2 {U:Int→Int} {du hi:Int} {L:List Int} {s:Sp}:s∈spF U du hi L ↔ ∃t,t∈L∧U t<hi∧s=(U t,U t+du,()):=by
 unfold spF;rw[pI2];constructor
 ·rintro⟨t,h,rfl⟩;rw[List.mem_filter,decide_eq_true_eq]at h;exact⟨t,h.1,h.2,rfl⟩
 ·rintro⟨t,h1,h2,rfl⟩;exact⟨t,List.mem_filter.2 ⟨h1,dp h2⟩,rfl⟩
theorem kA2 (U:Int→Int) (du hi:Int) (L:List Int):(spF U du hi L).length≤L.length:=by unfold spF;rw[tH2];exact List.length_filter_le _ _
abbrev Zn :Type:=Int×List (Int×Int×Unit)×List (Int×Int×Int×Int×Int×Unit)×Int×Unit
abbrev zZ :Zn:=(0,[],[],0,())
def okU (Z:Zn) (U:Int→Int) (L:List Int):Prop:=∀t∈L,aU.f Z t=some (U t,()) ∧ -500000000000≤U t∧U t≤500000000000
section
variable (zs : List Zn) (hi : Int) (L : List Int) (U : Int → Int)
theorem oU1 (m:Int×Int×Int×Bool×(Int×Int×Int×Int×Int×Bool×List Int×List Int×List Int×List Int×List (Int×Int×Unit)×List Int×List Int×List Int×List Int×Unit)×List Int×List Int×Unit) (hz:0≤m.1∧m.1<(zs.length:Int)) (hl:L.length≤1000000) (hd:0≤m.2.2.1∧m.2.2.1≤2678400) (hU:okU (zs.getD m.1.toNat zZ) U L):∀(k i:Nat) (acc:List Sp),L.length-i=k→i≤L.length→acc.length≤i →
  dD.l2 zs hi L (L.length:Int) (i:Int) m acc=(rC.f (acc++spF U m.2.2.1 hi (L.drop i)) ()).bind fun t7=>(gE.f t7.1).bind fun t8=>some (t8.1,0,()):=by
 have hlim:uC=17179869184:=rfl;intro k
 induction k with
 | zero=>
  intro i acc hk hi' ha;have e:i=L.length:=by omega
  subst e;rw[dD.l2_eq,fJ2];simp(disch:=omega)only[ss,show spF U m.2.2.1 hi []=[]from rfl,bI2]
 | succ k ih=>
  intro i acc hk hi' ha;have hlt:i<L.length:=by omega
  obtain⟨u1,u2,u3⟩:=hU (L.getD i 0) (iD 0 hlt)
  have hst:spF U m.2.2.1 hi (L.drop i)=(if U (L.getD i 0)<hi then [(U (L.getD i 0),U (L.getD i 0)+m.2.2.1,())]else [])++spF U m.2.2.1 hi (L.drop (i+1)):=by
   rw[oC 0 hlt];unfold spF;rw[List.filter_cons];by_cases c:U (L.getD i 0)<hi
   ·rw[dp c,if_pos rfl,if_pos c];rfl
   ·rw[dn c,if_neg (by simp),if_neg c];rfl
  rw[dD.l2_eq,hst];simp(disch:=omega)only[ss,u1];by_cases c:U (L.getD i 0)<hi
  ·simp(disch:=omega)only[ss,if_pos c,rH2,hlim];have:=ih (i+1) (acc++[(U (L.getD i 0),U (L.getD i 0)+m.2.2.1,())]) (by omega) (by omega) (by simp;omega);rw[dI2]at this;exact this
  ·simp(disch:=omega)only[ss,if_neg c,aJ2];exact ih (i+1) acc (by omega) (by omega) (by omega)
theorem lP1 (m:Int×Int×Int×Bool×(Int×Int×Int×Int×Int×Bool×List Int×List Int×List Int×List Int×List (Int×Int×Unit)×List Int×List Int×List Int×List Int×Unit)×List Int×List Int×Unit) (hz:0≤m.1∧m.1<(zs.length:Int)) (hl:L.length≤1000000) (hd:0≤m.2.2.1∧m.2.2.1≤2678400) (hU:okU (zs.getD m.1.toNat zZ) U L):
  ∃r:List Sp,r.Perm (spF U m.2.2.1 hi L)∧r.Pairwise (fun x y=>x.1≤y.1)∧dD.l2 zs hi L (L.length:Int) 0 m []=some (r.foldl push [],0,()):=by
 have h:=oU1 zs hi L U m hz hl hd hU _ 0 [] rfl (uH2 _) (yH2 _);have hsl:=kA2 U m.2.2.1 hi L
 obtain⟨r,h1,h2,h3⟩:=wZ1 (spF U m.2.2.1 hi L) (by omega) fun s hs=>by obtain⟨t,ht,_,rfl⟩:=kB2.1 hs;have:=(hU t ht).2;dsimp only;omega
 refine⟨r,h2,h3,?_⟩;have hrl:=h2.length_eq;rw[mI2,aJ2,h1,eI2]at h;rw[h];simp only[pH2];rw[zV1 r (by omega)];rfl
end
def zO (l:List Int):Prop:=l.Pairwise (· < ·)
theorem dO {x:Int} {l:List Int}:zO (x::l)↔(∀y,y∈l→x<y)∧zO l:=dJ2
theorem oE1 :∀{a b:List Int},zO a→zO b→(∀x,x∈a↔x∈b)→a=b
 | [],[],_,_,_=>rfl
 | [],y::b,_,_,h=>absurd ((h y).2 (wH2 ..)) (by simp)
 | x::a,[],_,_,h=>absurd ((h x).1 (wH2 ..)) (by simp)
 | x::a,y::b,ha,hb,h=>by
  have pa:=dO.1 ha;have pb:=dO.1 hb;have e:x=y:=by
   rcases vH2.1 ((h x).1 (wH2 ..))with e | e
   ·exact e
   ·rcases vH2.1 ((h y).2 (wH2 ..))with f | f
    ·exact f.symm
    ·have:=pb.1 x e;have:=pa.1 y f;omega
  subst e;have:a=b:=by
   refine oE1 pa.2 pb.2 fun z=>⟨fun hz=>?_,fun hz=>?_⟩
   ·rcases vH2.1 ((h z).1 (xH2 _ hz))with e | e
    ·have:=pa.1 z hz;omega
    ·exact e
   ·rcases vH2.1 ((h z).2 (xH2 _ hz))with e | e
    ·have:=pb.1 z hz;omega
    ·exact e
  rw[this]
theorem eQ :∀{l:List Int},zO l → ∀{i j:Nat},i<j→j<l.length→l.getD i 0<l.getD j 0
 | [],_,_,_,_,h=>absurd h (by simp)
 | x::l,hr,0,0,h,_=>absurd h (by omega)
 | x::l,hr,0,j+1,_,h=>by
  have hj:j<l.length:=by simpa using h
  rw[List.getD_cons_zero,mL2,uH 0 hj];exact(dO.1 hr).1 _ (tJ2 hj)
 | x::l,hr,i+1,0,h,_=>absurd h (by omega)
 | x::l,hr,i+1,j+1,h,h2=>by rw[mL2,mL2];exact eQ (dO.1 hr).2 (by omega) (by simpa using h2)
theorem oC1 {l:List Int} {x:Int} (h:x∈l):∃i,i<l.length∧l.getD i 0=x:=by obtain⟨i,hi,e⟩:=List.mem_iff_getElem.1 h;exact⟨i,hi,by rw[uH 0 hi,e]⟩
theorem fX1 {l:List Int} {i:Nat} (h:i<l.length):l.getD i 0∈l:=by rw[uH 0 h];exact tJ2 h
theorem half {a b:Nat} (h:a+b<4611686018427387904):w6 (shrI .u64 (IntKind.u64.wrap (w6 ((a:Int)+(b:Int)))) 1)=(((a+b)/2:Nat):Int):=by
 rw[wr (x:=(a:Int)+(b:Int)) (by omega) (by omega),Go.IntWalk.u64_in ((a:Int)+(b:Int)) (by omega)];have e:shrI .u64 ((a:Int)+(b:Int)) 1=(((a+b)/2:Nat):Int):=by show Int.fdiv ((a:Int)+(b:Int)) (2 ^ (min (1:Int).toNat 64))=_;rw[show min (1:Int).toNat 64=1 from rfl,show(2:Int) ^ 1=2 from rfl,Int.fdiv_eq_ediv_of_nonneg _ (by decide)];omega
 rw[e,wr (by omega) (by omega)]
theorem lX1 (a b:Int):bJ.f a b=some (decide (a<b),()):=by rw[bJ.f_eq];simp(disch:=omega)only[ss,jI.f_eq,ne_eq,not_true_eq_false]
theorem vZ1 (a:Int):qF.f a=some (false,()):=by rw[qF.f_eq];simp(disch:=omega)only[ss,ne_eq,not_true_eq_false]
theorem pF2 {l:List Int} (hl:l.length≤1000000) (hr:zO l) (t:Int):∀(k a b:Nat),b-a≤k→a≤b→b≤l.length→(∀j,j<a→l.getD j 0<t)→(∀j,b≤j→j<l.length→t≤l.getD j 0) →
  ∃i:Nat,bB.l1 l t (l.length:Int) a b=some ((i:Int),decide (i<l.length∧l.getD i 0=t),())∧i≤l.length∧(∀j,j<i→l.getD j 0<t)∧(∀j,i≤j→j<l.length→t≤l.getD j 0):=by
 have done:∀a:Nat,a≤l.length→(∀j,j<a→l.getD j 0<t)→(∀j,a≤j→j<l.length→t≤l.getD j 0) → ∃i:Nat,bB.l1 l t (l.length:Int) a a=some ((i:Int),decide (i<l.length∧l.getD i 0=t),())∧i≤l.length∧(∀j,j<i→l.getD j 0<t)∧(∀j,i≤j→j<l.length→t≤l.getD j 0):=by
  intro a ha h1 h3;rw[bB.l1_eq];refine⟨a,?_,ha,h1,h3⟩;by_cases hc:a<l.length
  ·by_cases he:l.getD a 0=t
   ·rw[dp (show a<l.length∧l.getD a 0=t from⟨hc,he⟩)];simp(disch:=omega)only[ss]
   ·rw[dn (show ¬(a<l.length∧l.getD a 0=t)from fun q=>he q.2)];simp(disch:=omega)only[ss,vZ1]
  ·rw[dn (show ¬(a<l.length∧l.getD a 0=t)from fun q=>hc q.1)];simp(disch:=omega)only[ss]
 intro k
 induction k with
 | zero=>
  intro a b hk hab hb h1 h3;have e:a=b:=by omega
  subst e;exact done a hb h1 h3
 | succ k ih=>
  intro a b hk hab hb h1 h3;by_cases he:a=b
  ·subst he;exact done a hb h1 h3
  ·rw[bB.l1_eq,half (by omega)];have hm1:a≤(a+b)/2:=by omega
   have hm2:(a+b)/2<b:=by omega
   generalize (a+b)/2=m at hm1 hm2;simp(disch:=omega)only[ss,lX1];by_cases hm:l.getD m 0<t
   ·simp(disch:=omega)only[ss];refine ih (m+1) b (by omega) (by omega) hb (fun j hj=>?_) h3;by_cases hjm:j=m
    ·subst hjm;exact hm
    ·have:=eQ hr (show j<m by omega) (by omega);omega
   ·simp(disch:=omega)only[ss];refine ih a m (by omega) hm1 (by omega) h1 fun j hj1 hj2=>?_
    by_cases hjm:j=m
    ·subst hjm;omega
    ·have:=eQ hr (show m<j by omega) hj2;omega
theorem vC2 {l:List Int} (hl:l.length≤1000000) (hr:zO l) (t:Int):∃i:Nat,bB.f l t=some ((i:Int),decide (i<l.length∧l.getD i 0=t),())∧i≤l.length∧(t∈l→i<l.length∧l.getD i 0=t):=by
 obtain⟨i,h1,h2,h3,h4⟩:=pF2 hl hr t l.length 0 l.length (by omega) (uH2 _) (yH2 _) (fun j hj=>absurd hj (by omega)) (fun j h1 h2=>absurd h1 (by omega));rw[bB.f_eq];refine⟨i,h1,h2,fun hm=>?_⟩;obtain⟨j,hj,e⟩:=oC1 hm;have hij:i≤j:=by
  refine Classical.byContradiction fun c=>?_
  have:=h3 j (by omega);omega
 by_cases c:i=j
 ·subst c;exact⟨hj,e⟩
 ·have:=eQ hr (show i<j by omega) hj;have:=h4 i (yH2 _) (by omega);omega
def bP (ex:List Int) (e t:Int):Bool:= !(decide (t∈ex)||decide (t≥e))
theorem vS1 {p:Int→Bool} {x:Int} (h:p x=false):List.filter p [x]=[]:=by rw[List.filter_cons,h];rfl
theorem rW1 {p:Int→Bool} {x:Int} (h:p x=true):List.filter p [x]=[x]:=by rw[List.filter_cons,h];rfl
section
variable (z st du : Int) (rc : Bool) (f iv ct un wk : Int) (en : Bool) (mo we yd md : List Int) (dy : List (Int × Int × Unit)) (ho mi se po da ex : List Int) (e : Int)
theorem uD2 (hx:zO ex) (hl:ex.length≤1000000) (t:Int):xH.f t (z,st,du,rc,f,iv,ct,un,wk,en,mo,we,yd,md,dy,ho,mi,se,po,da,ex,()) (e,())=some (!bP ex e t,(z,st,du,rc,f,iv,ct,un,wk,en,mo,we,yd,md,dy,ho,mi,se,po,da,ex,()),(e,()),()):=by
 obtain⟨i,h1,h2,h3⟩:=vC2 hl hx t;have hd:decide (i<ex.length∧ex.getD i 0=t)=decide (t∈ex):=decide_eq_decide.2 ⟨fun h=>by rw[←h.2];exact fX1 h.1,h3⟩;rw[hd]at h1;rw[xH.f_eq];dsimp only;rw[h1];simp only[pH2];unfold bP;by_cases c:t∈ex
 ·rw[dp c,cond_true,Bool.true_or];rfl
 ·rw[dn c,cond_false,Bool.false_or,Bool.not_not]
theorem dD2 (hx:zO ex) (hl:ex.length≤1000000) (l:List Int) (hn:l.length≤1000000):∀(k i:Nat),l.length-i=k→i≤l.length →
  (∃j,i≤j∧j<l.length∧bP ex e (l.getD j 0)=false∧(∀q,i≤q→q<j→bP ex e (l.getD q 0)=true)∧jB.l1 (l.length:Int) (i:Int) l (z,st,du,rc,(f,iv,ct,un,wk,en,mo,we,yd,md,dy,ho,mi,se,po,()),da,ex,()) e=some ((j:Int),l,((z,st,du,rc,f,iv,ct,un,wk,en,mo,we,yd,md,dy,ho,mi,se,po,da,ex,()),(e,()),()),())) ∨
  ((∀q,i≤q→q<l.length→bP ex e (l.getD q 0)=true)∧jB.l1 (l.length:Int) (i:Int) l (z,st,du,rc,(f,iv,ct,un,wk,en,mo,we,yd,md,dy,ho,mi,se,po,()),da,ex,()) e=some (-1,l,((z,st,du,rc,f,iv,ct,un,wk,en,mo,we,yd,md,dy,ho,mi,se,po,da,ex,()),(e,()),()),())):=by
 intro k
 induction k with
 | zero=>
  intro i hk hi;refine .inr ⟨fun q h1 h2=>by omega,?_⟩;rw[jB.l1_eq];simp(disch:=omega)only[ss]
 | succ k ih=>
  intro i hk hi;have hlt:i<l.length:=by omega
  rw[jB.l1_eq];dsimp only;have h1:=uD2 z st du rc f iv ct un wk en mo we yd md dy ho mi se po da ex e hx hl (l.getD i 0);simp(disch:=omega)only[ss,h1];cases hkp:bP ex e (l.getD i 0)with
  | false=>
   refine .inl ⟨i,yH2 _,hlt,hkp,fun q h1 h2=>by omega,?_⟩;rfl
  | true=>
   simp only[cJ2,cond_false];rcases ih (i+1) (by omega) (by omega)with⟨j,a1,a2,a3,a4,a5⟩ | ⟨a1,a2⟩
   ·refine .inl ⟨j,by omega,a2,a3,fun q q1 q2=>?_,a5⟩;by_cases c:q=i
    ·rw[c];exact hkp
    ·exact a4 q (by omega) q2
   ·refine .inr ⟨fun q q1 q2=>?_,a2⟩;by_cases c:q=i
    ·rw[c];exact hkp
    ·exact a1 q (by omega) q2
theorem wC2 (hx:zO ex) (hl:ex.length≤1000000) (l:List Int) (hn:l.length≤1000000):∀(k i p:Nat) (y:List Int),l.length-i=k→i≤l.length→p≤i→y.length=l.length→y.take p=(l.take i).filter (bP ex e)→y.drop i=l.drop i →
  mA.l2 (p:Int) (i:Int) y (z,st,du,rc,(f,iv,ct,un,wk,en,mo,we,yd,md,dy,ho,mi,se,po,()),da,ex,()) e=some (l.filter (bP ex e),((z,st,du,rc,f,iv,ct,un,wk,en,mo,we,yd,md,dy,ho,mi,se,po,da,ex,()),(e,()),()),()):=by
 intro k
 induction k with
 | zero=>
  intro i p y hk hi hp hy ht hd;have e1:i=l.length:=by omega
  subst e1;rw[uJ2]at ht;have hlen:(y.take p++List.replicate (y.length-p) 0).length=y.length:=by simp;omega
  have htk:(y.take p++List.replicate (y.length-p) 0).take p=l.filter (bP ex e):=by rw[qK2 (by rw[cI2];omega),List.take_take,Nat.min_self,ht]
  rw[mA.l2_eq];simp(disch:=omega)only[ss,hlen,htk,mA.l3_eq]
 | succ k ih=>
  intro i p y hk hi hp hy ht hd;have hlt:i<l.length:=by omega
  have hg:y.getD i 0=l.getD i 0:=by have h1:=oC 0 (show i<y.length by omega);have h2:=oC 0 hlt;rw[hd,h2]at h1;injection h1 with h1 _;exact h1.symm
  have hd':y.drop (i+1)=l.drop (i+1):=by have h1:=congrArg (List.drop 1) hd;rwa[nK2,nK2]at h1
  have h1:=uD2 z st du rc f iv ct un wk en mo we yd md dy ho mi se po da ex e hx hl (l.getD i 0);rw[mA.l2_eq];dsimp only;simp(disch:=omega)only[ss,hg,h1];cases hkp:bP ex e (l.getD i 0)with
  | false=>
   simp only[zJ2,cond_true,cJ2,cond_false];exact ih (i+1) p y (by omega) (by omega) (by omega) hy (by rw[tE 0 hlt,List.filter_append,ht,vS1 hkp,bI2]) hd'
  | true=>
   simp only[zJ2,cond_true,cJ2,cond_false];refine ih (i+1) (p+1) (y.set p (l.getD i 0)) (by omega) (by omega) (by omega) (by rw[xK2];exact hy) ?_ ?_
   ·rw[tE 0 hlt,List.filter_append,←ht];rw[tE 0 (show p<(y.set p (l.getD i 0)).length by rw[xK2];omega),List.take_set_of_le (yH2 _)]
    congr 1
    rw[qH2,List.getElem?_set_self (by omega),fK2,rW1 hkp]
   ·rw[List.drop_set_of_lt (by omega)];exact hd'
theorem wX1 (hx:zO ex) (hl:ex.length≤1000000) (l:List Int) (hn:l.length≤1000000):mA.f l ((z,st,du,rc,f,iv,ct,un,wk,en,mo,we,yd,md,dy,ho,mi,se,po,da,ex,()),(e,()),())=some (l.filter (bP ex e),((z,st,du,rc,f,iv,ct,un,wk,en,mo,we,yd,md,dy,ho,mi,se,po,da,ex,()),(e,()),()),()):=by
 have hI:∀v,jB.l1 (l.length:Int) ((0:Nat):Int) l (z,st,du,rc,(f,iv,ct,un,wk,en,mo,we,yd,md,dy,ho,mi,se,po,()),da,ex,()) e=v→jB.f l ((z,st,du,rc,f,iv,ct,un,wk,en,mo,we,yd,md,dy,ho,mi,se,po,da,ex,()),(e,()),())=v:=fun v h=>by rw[jB.f_eq];exact h
 rw[mA.f_eq];dsimp only;rcases dD2 z st du rc f iv ct un wk en mo we yd md dy ho mi se po da ex e hx hl l hn _ 0 rfl (uH2 _)with⟨j,a1,a2,a3,a4,a5⟩ | ⟨a1,a2⟩
 ·rw[hI _ a5];simp(disch:=omega)only[ss];refine wC2 z st du rc f iv ct un wk en mo we yd md dy ho mi se po da ex e hx hl l hn _ (j+1) j l rfl (by omega) (by omega) rfl ?_ rfl;rw[tE 0 a2,List.filter_append]
  have:(l.take j).filter (bP ex e)=l.take j:=List.filter_eq_self.2 fun x hx=>by obtain⟨q,h1,h2⟩:=oC1 hx;rw[cI2]at h1;rw[←h2,qH2,List.getElem?_take_of_lt (by omega),←qH2];exact a4 q (by omega) (by omega)
  rw[this,vS1 a3,bI2]
 ·rw[hI _ a2];simp(disch:=omega)only[ss,mA.l1_eq]
  have:l.filter (bP ex e)=l:=List.filter_eq_self.2 fun x hx=>by obtain⟨q,h1,h2⟩:=oC1 hx;rw[←h2];exact a1 q (by omega) h1
  rw[this]
theorem nF1 (y:List Int) (hy:y.length≤1000000):vC.f y=some (y.mergeSort fun x y=>decide (x≤y),()):=by rw[vC.f_sem];show(bif decide (List.length y≤uC)then some (y.mergeSort fun x y=>decide (x≤y),())else none)=_;rw[dp (by simp only[uC];omega),cond_true]
theorem tA1 (y:List Int) (hy:y.length≤1000000):uE.f y=some (y,()):=by rw[uE.f_sem];show(bif decide (List.length y≤uC)then some (y,())else none)=_;rw[dp (by simp only[uC];omega),cond_true]
theorem vG1 (y:List Int) (x:Int):x∈dds y↔x∈y:=by
 cases y with
 | nil=>exact Iff.rfl
 | cons a r=>
  show x∈a::dd a r↔_;rw[vH2,vH2];have:=yP1 r a x;exact⟨fun h=>(this.1 h.symm).symm,fun h=>(this.2 h.symm).symm⟩
theorem uE1 (y:List Int) (h:y.Pairwise (· ≤ ·)):zO (dds y):=by
 cases y with
 | nil=>exact List.Pairwise.nil
 | cons a r=>exact hB1 r a h
theorem dE1 (y:List Int):(y.mergeSort fun x y=>decide (x≤y)).Pairwise (· ≤ ·):=
 (List.pairwise_mergeSort (le:=fun x y:Int=>decide (x≤y)) (fun a b c h1 h2=>by simp at *;omega) (fun a b=>by simp;omega) y).imp fun h=>of_decide_eq_true h
theorem bY :∀(l:List Int) (p:Int),(dd p l).length≤l.length
 | [],_=>yH2 _
 | a::l,p=>by unfold dd;have:=bY l a;split <;> simp <;> omega
theorem uH1 (y:List Int):(dds y).length≤y.length:=by
 cases y with
 | nil=>exact yH2 _
 | cons a r=>exact Nat.succ_le_succ (bY r a)
noncomputable def locL (l da ex:List Int) (e:Int):List Int:=(dds ((l++da).mergeSort fun x y=>decide (x≤y))).filter (bP ex e)
theorem yX1 {l da ex:List Int} {e x:Int}:x∈locL l da ex e↔(x∈l∨x∈da)∧x∉ex∧x<e:=by unfold locL bP;rw[List.mem_filter,vG1,List.mem_mergeSort,kI2];simp
theorem bO1 (l da ex:List Int) (e:Int):zO (locL l da ex e):=List.Pairwise.filter _ (uE1 _ (dE1 _))
noncomputable def locE (l da ex:List Int) (e:Int):Option (List Int×Int×Unit):=if((locL l da ex e).length:Int)>4096 then some ([],10,())else some (locL l da ex e,0,())
theorem hZ1 (hx:zO ex) (hl:ex.length≤1000000) (l:List Int) (h1:l.length≤400000) (h2:da.length≤400000):
  mE.l1 l (z,st,du,rc,(f,iv,ct,un,wk,en,mo,we,yd,md,dy,ho,mi,se,po,()),da,ex,()) e=locE l da ex e∧mE.l1a (z,st,du,rc,(f,iv,ct,un,wk,en,mo,we,yd,md,dy,ho,mi,se,po,()),da,ex,()) e l=locE l da ex e:=by
 have hlim:uC=17179869184:=rfl;have hs:=nF1 (l++da) (by rw[oH2];omega);have hc:=jS ((l++da).mergeSort fun x y=>decide (x≤y)) (by rw[List.length_mergeSort,oH2];omega);have hdl:=uH1 ((l++da).mergeSort fun x y=>decide (x≤y));rw[List.length_mergeSort,oH2]at hdl;have hd:=wX1 z st du rc f iv ct un wk en mo we yd md dy ho mi se po da ex e hx hl (dds ((l++da).mergeSort fun x y=>decide (x≤y))) (by omega);have hk:=tA1 l (by omega)
 have fin:(bif decide (((locL l da ex e).length:Int)>4096)then(some (([]:List Int),(10:Int),()))else(some (locL l da ex e,0,())))=locE l da ex e:=by
  unfold locE;by_cases c:((locL l da ex e).length:Int)>4096
  ·rw[dp c,if_pos c];rfl
  ·rw[dn c,if_neg c];rfl
 rw[mE.l1_eq,mE.l1a_eq,hk];dsimp only;simp only[pH2];rw[dp (by omega),cond_true,hs];simp only[pH2];rw[hc];simp only[pH2];rw[hd];exact⟨fin,fin⟩
end
theorem mF2 :xF.f 3=some (-62072524800,()):=by have h:=tH 3 1 1 0 0 0 (-718432) ⟨by decide,by decide⟩ (by omega) (by omega) (by omega);rw[show(-718432:Int)*86400+3600*0+60*0+0 = -62072524800 by omega]at h;rw[xF.f_eq,h];rfl
theorem rG2 :xF.f 9998=some (253339228800,()):=by have h:=tH 9998 1 1 0 0 0 2932167 ⟨by decide,by decide⟩ (by omega) (by omega) (by omega);rw[show(2932167:Int)*86400+3600*0+60*0+0=253339228800 by omega]at h;rw[xF.f_eq,h];rfl
theorem jE2 :mE.f (0,1767603600,3600,true,r0,[],[],()) 1772496000=some ([1767603600,1768208400],0,()):=by
 rw[mE.f_eq,ex_m];dsimp only;simp only[pH2,cJ2,cond_false,cond_true];rw[ex_l];simp only[pH2];have h:=(hZ1 0 1767603600 3600 true 3 1 2 0 0 false [] [] [] [] [] [] [] [] [] [] [] 1772496000 List.Pairwise.nil (by simp) [1767603600,1768208400] (by simp) (by simp)).1;have hL:locL [1767603600,1768208400] [] [] 1772496000=[1767603600,1768208400]:=by
  refine oE1 (bO1 _ _ _ _) (by unfold zO;simp) fun x=>?_
  rw[yX1];simp;omega
 unfold locE at h;rw[hL,if_neg (by simp)]at h;exact h
theorem oV1 :dD.f (0,1767603600,3600,true,r0,[],[],()) [(3600,[],[],0,())] 1772323200=some ([(1767600000,1767603600,()),(1768204800,1768208400,())],0,()):=by
 let U:Int→Int:=fun t=>t-3600
 have hU:okU (([(3600,[],[],0,())]:List Zn).getD (0:Int).toNat zZ) U [1767603600,1768208400]:=by
  intro t ht;simp only[vH2,List.not_mem_nil,or_false]at ht;rcases ht with rfl | rfl
  ·exact⟨xG2,by decide,by decide⟩
  ·exact⟨iF2,by decide,by decide⟩
 obtain⟨r,h1,h2,h3⟩:=lP1 [(3600,[],[],0,())] 1772323200 [1767603600,1768208400] U (0,1767603600,3600,true,r0,[],[],()) (by simp) (by simp) (by simp) hU;have hs:spF U 3600 1772323200 [1767603600,1768208400]=[(1767600000,1767603600,()),(1768204800,1768208400,())]:=by decide
 have h1:r.Perm [(1767600000,1767603600,()),(1768204800,1768208400,())]:=by rw[←hs];exact h1
 have hr:r=[(1767600000,1767603600,()),(1768204800,1768208400,())]:=by
  have hl:=h1.length_eq
  match r,hl with
  | [a,b],_=>
   have ha:=h1.mem_iff.1 (show a∈[a,b] by simp);have hb:=h1.mem_iff.1 (show b∈[a,b] by simp);have hab:=(dJ2.1 h2).1 b (by simp);have q1:=h1.mem_iff.2 (show((1767600000,1767603600,()):Sp)∈_ by simp);have q2:=h1.mem_iff.2 (show((1768204800,1768208400,()):Sp)∈_ by simp);simp only[vH2,List.not_mem_nil,or_false]at ha hb q1 q2;rcases ha with rfl | rfl <;> rcases hb with rfl | rfl
   ·simp at q2
   ·rfl
   ·simp at hab
   ·simp at q1
 subst hr;rw[dD.f_eq,ex_m];dsimp only;simp only[pH2,cJ2,cond_false];rw[show kC1.f (([(3600,[],[],0,())]:List Zn).getD (0:Int).toNat (0,[],[],0,()))=some (true,())from ex_z,mF2,rG2];simp(disch:=omega)only[ss,dD.l1_eq,zH2,hI2];rw[show(1772323200+172800:Int)=1772496000 from rfl,jE2];simp(disch:=omega)only[ss];rw[show(([1767603600,1768208400]:List Int).length:Int)=((([1767603600,1768208400]:List Int).length:Nat):Int)from rfl];refine Eq.trans h3 ?_;decide
theorem aR :nG.f=some (true,()):=by rw[nG.f_eq,ex_p,eG2];simp only[pH2,zH2,hI2];rw[oV1,ex_a,ex_b];simp only[pH2];rw[show w6 (1767600000+3600)=1767603600 by rw[wr (by omega) (by omega)];rfl,show w6 (1768204800+3600)=1768208400 by rw[wr (by omega) (by omega)];rfl,lV1 _ _ (by simp)];simp(disch:=omega)only[ss]
end Go.GV.YtegmfagkklekaaaGreatDoor
