/-
Part of the words that MeetTexts is proved with: no statement of its own, no conditions.
-/
import Derived.Test.YtegmfagkklekaaaGreatDoorFMeetTextsw
set_option linter.unusedVariables false
set_option linter.unusedSimpArgs false
namespace Go.GV.YtegmfagkklekaaaGreatDoor
open Go.Proofs
noncomputable def WA (X:List ByteArray) (nx i:Int) (y:Mt):Rs:=qC.l1a X nx i 0 0 0 false 0 0 0 0 0 false y
theorem dS1 (m:Mt) (h:jG m):vB.f m=vD.f m:=(jT1 m h).eq (nQ1 m h)
theorem xC2 (X:List ByteArray) (nx:Nat) (y:Mt) (hy:jG y):WA X nx X.length y=QA X nx X.length y:=by
 rw[qR1];unfold WA;rw[qC.l1a_eq,dS1 y hy];by_cases c:nx≤1
 ·rw[if_pos c];simp(disch:=omega)only[ss];rfl
 ·rw[if_neg c];simp(disch:=omega)only[ss];rfl
theorem hA2 (X:List ByteArray) (s:List UInt8) (nx i:Nat) (y:Mt) (hi:i<X.length) (hX:X.getD i ByteArray.empty=mkS s) (h1:i<1000000):WA X nx i y=(aA.f y (mkS s) (nx:Int)).bind fun t=>bif decide (t.1=0)then bad9 i else WA X t.1 ((i+1:Nat):Int) t.2.1:=by
 unfold WA
 conv=>lhs;rw[qC.l1a_eq]
 simp(disch:=omega)only[ss,hX];rfl
theorem yY1 (X:List ByteArray) (i:Nat) {r:Option (Int×Mt×Unit)} {q:Rs} (h:Rel X i r q) (ih:∀(k:Nat) (y':Mt),k<5→jG y'→WA X ((k+1:Nat):Int) ((i+1:Nat):Int) y'=QA X ((k+1:Nat):Int) ((i+1:Nat):Int) y'):
  (r.bind fun t=>bif decide (t.1=0)then bad9 i else WA X t.1 ((i+1:Nat):Int) t.2.1)=q:=by
 rcases h with⟨y',rfl,rfl⟩ | ⟨k,y',hk,hy,rfl,rfl⟩
 ·rfl
 ·have:¬((k+1:Nat):Int)=0:=by omega
  simp only[pH2];rw[dn this,cond_false];exact ih k y' hk hy
theorem mD2 (X:List (List UInt8)) (hX:X.length≤10000) (hs:∀s∈X,s.length≤4096):∀(n i nx:Nat) (y:Mt),X.length-i=n→i≤X.length→nx≤5→jG y→WA (X.map mkS) (nx:Int) (i:Int) y=QA (X.map mkS) (nx:Int) (i:Int) y:=by
 have hm:(X.map mkS).length=X.length:=tH2 ..;intro n
 induction n with
 | zero=>
  intro i nx y hn hi hx hy;have e:i=(X.map mkS).length:=by omega
  rw[e];exact xC2 _ nx y hy
 | succ n ih=>
  intro i nx y hn hi hx hy;have hlt:i<X.length:=by omega
  rw[hA2 _ (X.getD i []) nx i y (by omega) (gmX X hlt) (by omega),mU1 _ (X.getD i []) nx i y (by omega) (gmX X hlt)];exact yY1 _ i (zD1 _ (X.getD i []) nx i y (by omega) hx (hs _ (iD [] hlt)) hy) fun k y' hk hy'=>ih (i+1) (k+1) y' (by omega) (by omega) (by omega) hy'
theorem jK1 :jG zM:=⟨xC1,uH2 _,uH2 _⟩
theorem dV1 (X:List ByteArray) (s:List UInt8) (hi:0<X.length) (hX:X.getD 0 ByteArray.empty=mkS s):
  lA.l1 X 0 X (X.length:Int) 0 0 0 0 false 0 0 0 0 0 false 0 0 0 false 0 0 0 0 0 false=QB X (mkS s) ((0:Nat):Int) ((0:Nat):Int) zM:=by
 rw[jI1 X s hi hX]
 cases hp:pf F0 s with
 | true=>
  have e:=iO (k:=0) hp;have:=tV1 X (s.drop (Fr 0).length) 0 0 0 zM (by omega) (by omega) (.inr rfl);rw[←e]at this;rw[cond_true];exact this.symm
 | false=>exact(sB1 X s 0 0 zM (by omega) hp).symm
theorem vA2 (l:List UInt8):qC.f (I l)=lA.f (I l):=by
 rw[lA.f_eq,qC.f_eq,kO1];rcases cN l with h | ⟨h,k,h1,h2,h3⟩ | ⟨h,h1⟩
 ·rw[tO h];rfl
 ·rw[qR h h1 h2 h3];rfl
 ·rw[iM h h1];obtain⟨X,hX⟩:∃X,X=fN [] (zF l):=⟨_,rfl⟩
  rw[←hX];have hp:=dR l;have hl:=dV (zF l) [];rw[←hX]at hl;have h0:totF ([]:List (List UInt8))=0:=rfl;have hn:([]:List (List UInt8)).length=0:=rfl;have hs:∀s∈X,s.length≤4096:=by intro s hs;have:=kT hs;have:0<X.length:=List.length_pos_of_mem hs;omega
  have hm:(X.map mkS).length=X.length:=tH2 ..;simp(disch:=omega)only[ss];by_cases c:0<X.length
  ·rw[dV1 (X.map mkS) (X.getD 0 []) (by omega) (gmX X c)]
   have hstep:qC.l1 (X.map mkS) 0 0 0 0 0 false 0 0 0 0 0 false 0 0 0 false 0 0 0 0 0 false=(aA.f zM (mkS (X.getD 0 [])) ((0:Nat):Int)).bind fun t=>bif decide (t.1=0)then bad9 ((0:Nat):Int)else WA (X.map mkS) t.1 ((0+1:Nat):Int) t.2.1:=by have hg:=gmX X c;rw[qC.l1_eq];simp(disch:=omega)only[ss,hm,hg];rfl
   rw[hstep];exact yY1 _ 0 (zD1 _ (X.getD 0 []) 0 0 zM (by omega) (by omega) (hs _ (iD [] c)) jK1) fun k y' hk hy'=>mD2 X (by omega) hs _ 1 (k+1) y' rfl (by omega) (by omega) hy'
  ·have:X=[]:=iI2 (by omega);subst this;rw[lA.l1_eq,qC.l1_eq];rfl
theorem cH1 (m:Mt) (hs:jG m):∃(x:List UInt8) (e:Int),mC.f m=some (I x,e,()):=by
 by_cases hM:mayM m
 ·have hl:=jF1 m hs hM;rw[eR1 m hs hM,uX1 (yM m) (by omega) (by omega)];unfold nM1;split
  ·split
   ·exact⟨[],3,rfl⟩
   ·exact⟨_,0,rfl⟩
  ·exact⟨[],4,rfl⟩
 ·exact⟨[],1,yE1 m hs hM⟩
theorem oX (m n:Mt) (b:List Int) (ok:(c8).par.T.Ok (m,n,b,())):pC.f m n b=some (true,()):=by
 obtain⟨_,_,⟨_,ob⟩,_⟩:=ok;have ob:∀x∈b,hW1 .u8 x:=ob;have eb:=Go.GV.okI ob;generalize (b.map fun n=>UInt8.ofNat n.toNat)=l at eb;subst eb;have l1t:pC.l1 (I l) true m n=some (true,()):=by rw[pC.l1_eq,cond_true,aR];rfl
 obtain⟨b,hb,hsm⟩:=mE2 m;obtain⟨d,hd,hsn⟩:=mE2 n;rw[pC.f_eq,aR,hb];simp only[pH2,cJ2,cond_false]
 cases b with
 | false=>rw[zJ2,cond_true,l1t]
 | true=>
  rw[cJ2,cond_false,hd];simp only[pH2]
  cases d with
  | false=>rw[zJ2,cond_true,l1t]
  | true=>
   rw[cJ2,cond_false];by_cases c:((I l).length:Int)>6000
   ·rw[dp c,l1t]
   ·rw[uG]at c;rw[uG,dn c,pC.l1_eq,cond_false];have hm:=hsm rfl;have hn:=hsn rfl;have hlim:uC=17179869184:=rfl;have hcp:cE.f (I l)=some (I l,()):=by rw[cE.f_eq];simp(disch:=omega)only[ss,uG,hI2,aJ2,hlim,cE.l1_eq]
    obtain⟨q,a,g,h1,h2,h3⟩:=qL1 l;have hq:jG q:=by
     by_cases cg:g=0
     ·exact(h2 cg).2.1
     ·rw[h3 cg];exact jK1
    obtain⟨u,hu,eu⟩:=nV q q hq;have hu1:u=true:=eu.2 rfl;subst hu1;obtain⟨v,hv⟩:∃v,vD.f m=some (v,()):=(nQ1 m hm).imp fun _ h=>h.1
    obtain⟨w,hw,ew⟩:=eH1 m n hm;obtain⟨w2,hw2,ew2⟩:=nV m n hm;have hww:w2=w:=by have:w=true↔w2=true:=ew.trans ew2.symm;cases w <;> cases w2 <;> first | rfl | exact absurd (this.1 rfl) (by simp) | exact absurd (this.2 rfl) (by simp)
    subst hww;have hv2:vB.f m=some (v,()):=by rw[dS1 m hm];exact hv
    have hp2:=vA2 l;rw[h1]at hp2;obtain⟨x,e,hx,hxI⟩:∃(x:List UInt8) (e:Int),mC.f m=some (I x,e,())∧True:=by obtain⟨x,e,h⟩:=cH1 m hm;exact⟨x,e,h,trivial⟩
    have hx2:pB.f m=some (I x,e,()):=by rw[vW1 m hm];exact hx
    simp(disch:=omega)only[ss,hcp,hx,hx2,h1,hp2,aR,cJ.f_eq,uA1,iE,hu,hv,hv2,hw,hw2,beq_self_eq_true]
end Go.GV.YtegmfagkklekaaaGreatDoor
