/-
Part of the words that MeetSpans is proved with: no statement of its own, no conditions.
-/
import Derived.Test.YtegmfagkklekaaaGreatDoorFMeetSpansr
set_option linter.unusedVariables false
set_option linter.unusedSimpArgs false
namespace Go.GV.YtegmfagkklekaaaGreatDoor
open Go.Proofs
section
variable {P : PlT} {r : Rl} {s : Int} {F : Int → Bool} {pr : Int → Int} {h m c : List Int} (hP : PlanOK P r s F pr h m c)
abbrev inP (iv s:Int) (pr:Int→Int) (t:Int):Prop:=Int.tmod (pr t-pr s) iv=0
def rawP (iv s:Int) (F:Int→Bool) (pr:Int→Int) (h m c:List Int) (t:Int):Prop:=inT t∧t%86400∈tod h m c∧inP iv s pr t∧F (t/86400)=true
include hP
theorem hJ1 (t:Int) (ht:inT t):nE.f P t=some (decide (inP r.2.1 s pr t),()):=by have hv:=hP.iv;rw[nE.f_eq,hP.period t ht,hP.er];simp(disch:=omega)only[ss]
theorem xX1 (t:Int) (ht:inT t):∃G:List Int,Rise G∧(∀x,x∈G↔rawP r.2.1 s F pr h m c x∧pr x=pr t) ∧
  ∀M:Nat,M≤200000→qB.f P t M=some (G.take (M+1),()):=by
 have hd:=uJ ht;have hD:=(qF t (by unfold inT at ht;omega) (by unfold inT at ht;omega)).1;have hI:=hJ1 hP t ht;obtain⟨A,B,g1,g2,g3,g4⟩:=hP.days t ht;by_cases c1:inP r.2.1 s pr t
 ·rw[dp c1]at hI;have hspan:∃lo hi,fH.f P t=some (lo,hi,())∧(0≤lo∧lo≤100000)∧(0≤hi∧hi≤100000) ∧
    ∀x,inT x→(pr x=pr t↔(A≤x/86400∧x/86400≤B)∧lo≤x%86400∧x%86400<hi):=by
   have hs1:0≤t%86400∧t%86400≤86399:=by omega
   rw[fH.f_eq,hD,hP.er];by_cases f5:r.1=5
   ·have e:Int.tmod (t%86400) 3600=t%86400%3600:=tmn hs1.1 _;refine⟨t%86400-t%86400%3600,t%86400-t%86400%3600+3600,by simp(disch:=omega)only[ss,e],by omega,by omega,fun x hx=>?_⟩;have a:=g4 (by omega);rw[hP.p5 f5 t ht,hP.p5 f5 x hx];constructor <;> intro q <;> omega
   ·by_cases f6:r.1=6
    ·have e:Int.tmod (t%86400) 60=t%86400%60:=tmn hs1.1 _;refine⟨t%86400-t%86400%60,t%86400-t%86400%60+60,by simp(disch:=omega)only[ss,e],by omega,by omega,fun x hx=>?_⟩;have a:=g4 (by omega);rw[hP.p6 f6 t ht,hP.p6 f6 x hx];constructor <;> intro q <;> omega
    ·by_cases f7:r.1=7
     ·refine⟨t%86400,t%86400+1,by simp(disch:=omega)only[ss],by omega,by omega,fun x hx=>?_⟩;have a:=g4 (by omega);rw[hP.p7 f7 t ht,hP.p7 f7 x hx];constructor <;> intro q <;> omega
     ·refine⟨0,86400,by simp(disch:=omega)only[ss],by omega,by omega,fun x hx=>?_⟩;rw[g3 (by have:=hP.fr;omega) x hx];constructor <;> intro q <;> omega
  obtain⟨lo,hi,s1,s2,s3,s4⟩:=hspan;refine⟨setF F h m c lo hi (B+1-A).toNat A,kE1 hP.oh.1 hP.om.1 hP.oc.1 hP.oh.2.1 hP.om.2.1 hP.oc.2.1 lo hi _ _,fun x=>?_,fun M hM=>?_⟩
  ·rw[dZ hP.oh.2.1 hP.om.2.1 hP.oc.2.1];constructor
   ·rintro⟨q1,q2,q3,q4,q5,q6⟩;have hx:inT x:=by unfold inT;omega
    have hpr:=(s4 x hx).2 ⟨⟨by omega,by omega⟩,q5,q6⟩;refine⟨⟨hx,q4,?_,q3⟩,hpr⟩;unfold inP at c1 ⊢;rw[hpr];exact c1
   ·rintro⟨⟨hx,q4,_,q3⟩,hpr⟩;have:=(s4 x hx).1 hpr;exact⟨by omega,by omega,q3,q4,this.2⟩
  ·rw[qB.f_eq,hI];simp only[hE2,lE2,cond_false];rw[s1];simp only[hE2];rw[g1];simp only[hE2];exact mZ1 P r s F pr h m c hP lo hi B M hM s2 s3 (by omega) _ A rfl (by omega) [] (kE2 _)
 ·rw[dn c1]at hI;refine⟨[],lG,fun x=>?_,fun M hM=>?_⟩
  ·constructor
   ·intro q;exact absurd q (by simp)
   ·rintro⟨⟨_,_,q,_⟩,e⟩;unfold inP at c1 q;rw[e]at q;exact absurd q c1
  ·rw[qB.f_eq,hI];rfl
omit hP
def rC1 (po:List Int) (l:List Int) (t:Int):Prop:=l.length≤100000 ∧ ∃i:Nat,i<l.length∧l.getD i 0=t∧((i:Int)+1∈po∨(i:Int)-(l.length:Int)∈po)
include hP
theorem cK1 (t:Int) (l:List Int) (hr:Rise l) (hl:l.length≤1000000):fF.f P t l=some (ind (rC1 r.2.2.2.2.2.2.2.2.2.2.2.2.2.2.1 l t),()):=by
 have lp:=hP.lp;obtain⟨i,h1,h2,h3⟩:=aV1 hl hr t;rw[fF.f_eq,h1,hP.er];generalize r.2.2.2.2.2.2.2.2.2.2.2.2.2.2.1=po at lp ⊢;simp only[hE2];by_cases c1:i<l.length∧l.getD i 0=t
 ·rw[dp c1,cond_true];by_cases c2:l.length≤100000
  ·have w1:w6 ((i:Int)+1)=(i:Int)+1:=wr (by omega) (by omega);have w2:w6 ((i:Int)-(l.length:Int))=(i:Int)-(l.length:Int):=wr (by omega) (by omega);rw[dp (show(l.length:Int)≤100000 by omega),cond_true,w1,w2,fG po _ (by omega),fG po _ (by omega)];simp only[hE2];by_cases c3:(i:Int)+1∈po
   ·rw[dp c3,cond_true,zY ⟨c2,i,c1.1,c1.2,.inl c3⟩]
   ·rw[dn c3,cond_false];by_cases c4:(i:Int)-(l.length:Int)∈po
    ·rw[dp c4,zY ⟨c2,i,c1.1,c1.2,.inr c4⟩]
    ·rw[dn c4,wS];rintro⟨_,j,j1,j2,j3⟩;have e:i=j:=bJ1 hr c1.1 j1 (by rw[c1.2,j2]);subst e;rcases j3 with j3 | j3
     ·exact c3 j3
     ·exact c4 j3
  ·rw[dn (show ¬(l.length:Int)≤100000 by omega),cond_false,wS (fun q=>c2 q.1)]
 ·rw[dn c1,cond_false,wS];rintro⟨_,j,j1,j2,_⟩;refine c1 (h3 ?_);rw[←j2];exact yG j1
end
def belP (iv un:Int) (en:Bool) (po:List Int) (s:Int) (F:Int→Bool) (pr:Int→Int) (h m c:List Int) (t:Int):Prop:=
 rawP iv s F pr h m c t∧s≤t∧(en=true→t≤un) ∧
  (po=[] ∨ ∃G:List Int,Rise G∧(∀x,x∈G↔rawP iv s F pr h m c x∧pr x=pr t)∧rC1 po (G.take 100001) t)
section
variable {P : PlT} {r : Rl} {s : Int} {F : Int → Bool} {pr : Int → Int} {h m c : List Int} (hP : PlanOK P r s F pr h m c) (hMk : sE.f r s = some (P, true, ()))
include hP hMk
end
section
variable {r : Rl} {s : Int} {P : PlT} (hMk : sE.f r s = some (P, false, ()))
include hMk
end
section
variable {f iv ct un wkst : Int} {en : Bool} {mo we yd md : List Int} {dy : List Dy} {ho mi se po : List Int} {P : PlT} {s : Int} {F : Int → Bool} {pr : Int → Int} {h m c : List Int} (hP : PlanOK P (f, iv, ct, un, wkst, en, mo, we, yd, md, dy, ho, mi, se, po, ()) s F pr h m c) (hMk : sE.f (f, iv, ct, un, wkst, en, mo, we, yd, md, dy, ho, mi, se, po, ()) s = some (P, true, ()))
include hP hMk
end
section
variable (W : Int → Prop)
noncomputable def memL (a b:Int):List Int:=((List.range (b-a).toNat).map (fun(j:Nat)=>a+(j:Int))).filter fun x=>ind (W x)
theorem kG {a b x:Int}:x∈memL W a b↔W x∧a≤x∧x<b:=by
 unfold memL;rw[zF2,kF2,gK];constructor
 ·rintro⟨⟨j,hj,e⟩,h⟩;have:=List.mem_range.1 hj;exact⟨h,by omega,by omega⟩
 ·rintro⟨h,h1,h2⟩;exact⟨⟨(x-a).toNat,List.mem_range.2 (by omega),by omega⟩,h⟩
theorem pG (a b:Int):Rise (memL W a b):=by unfold memL;refine List.Pairwise.sublist qH2 ?_;rw[List.pairwise_map];exact List.Pairwise.imp (fun {i j} h=>by omega) List.pairwise_lt_range
theorem pN {L:List Int} {a b:Int} (hr:Rise L) (h:∀x,x∈L↔W x∧a≤x∧x<b):L=memL W a b:=
 kL hr (pG W a b) fun x=>by rw[h,kG]
theorem hL1 {a b c:Int} (h1:a≤b) (h2:b≤c):memL W a b++memL W b c=memL W a c:=by
 refine pN W (yM.2 ⟨pG W a b,pG W b c,fun x hx y hy=>?_⟩) fun x=>?_
 ·have:=(kG W).1 hx;have:=(kG W).1 hy;omega
 ·rw[xE2,kG,kG];constructor
  ·rintro(⟨q,_,_⟩ | ⟨q,_,_⟩) <;> exact⟨q,by omega,by omega⟩
  ·rintro⟨q,_,_⟩;by_cases c1:x<b
   ·exact .inl ⟨q,by omega,c1⟩
   ·exact .inr ⟨q,by omega,by omega⟩
theorem gD1 {a b:Int} (h:∀x,a≤x→x<b → ¬W x):memL W a b=[]:=
 (pN W lG fun x=>⟨fun q=>absurd q (by simp),fun q=>absurd q.1 (h x q.2.1 q.2.2)⟩).symm
theorem lP {a b:Int} (h:b≤a):memL W a b=[]:=gD1 W fun x h1 h2=>by omega
end
section
variable (W : Int → Prop) (fr en : Int)
noncomputable def memC (a b:Int):List Int:=memL W (if fr≤a then a else fr) (if b≤en then b else en)
theorem bK {a b x:Int}:x∈memC W fr en a b↔W x∧(a≤x∧x<b)∧fr≤x∧x<en:=by
 unfold memC;rw[kG];by_cases c1:fr≤a
 ·rw[if_pos c1];by_cases c2:b≤en
  ·rw[if_pos c2];exact⟨fun h=>⟨h.1,⟨by omega,by omega⟩,by omega,by omega⟩,fun h=>⟨h.1,by omega,by omega⟩⟩
  ·rw[if_neg c2];exact⟨fun h=>⟨h.1,⟨by omega,by omega⟩,by omega,by omega⟩,fun h=>⟨h.1,by omega,by omega⟩⟩
 ·rw[if_neg c1];by_cases c2:b≤en
  ·rw[if_pos c2];exact⟨fun h=>⟨h.1,⟨by omega,by omega⟩,by omega,by omega⟩,fun h=>⟨h.1,by omega,by omega⟩⟩
  ·rw[if_neg c2];exact⟨fun h=>⟨h.1,⟨by omega,by omega⟩,by omega,by omega⟩,fun h=>⟨h.1,by omega,by omega⟩⟩
theorem zL (a b:Int):Rise (memC W fr en a b):=pG W _ _
theorem jU {L:List Int} {a b:Int} (hr:Rise L) (h:∀x,x∈L↔W x∧(a≤x∧x<b)∧fr≤x∧x<en):L=memC W fr en a b:=
 kL hr (zL W fr en a b) fun x=>by rw[h,bK]
theorem oR {a b c:Int} (h1:a≤b) (h2:b≤c):memC W fr en a b++memC W fr en b c=memC W fr en a c:=by
 refine jU W fr en (yM.2 ⟨zL W fr en a b,zL W fr en b c,fun x hx y hy=>?_⟩) fun x=>?_
 ·have:=(bK W fr en).1 hx;have:=(bK W fr en).1 hy;omega
 ·rw[xE2,bK,bK];constructor
  ·rintro(⟨q,q1,q2⟩ | ⟨q,q1,q2⟩) <;> exact⟨q,⟨by omega,by omega⟩,q2⟩
  ·rintro⟨q,q1,q2⟩;by_cases c1:x<b
   ·exact .inl ⟨q,⟨by omega,c1⟩,q2⟩
   ·exact .inr ⟨q,⟨by omega,by omega⟩,q2⟩
def inW (x:Int):Bool:=decide (fr≤x)&&decide (x<en)
theorem iV {L:List Int} {a b:Int} (hr:Rise L) (h:∀x,x∈L↔W x∧a≤x∧x<b):L.filter (inW fr en)=memC W fr en a b:=by
 refine jU W fr en (List.Pairwise.sublist qH2 hr) fun x=>?_
 unfold inW;rw[zF2,h,iE2,decide_eq_true_eq,decide_eq_true_eq];exact⟨fun q=>⟨q.1.1,q.1.2,q.2⟩,fun q=>⟨⟨q.1,q.2.1⟩,q.2.2⟩⟩
theorem aN {W':Int→Prop} {a b a' b':Int} (h:∀x,fr≤x→x<en→(W x∧a≤x∧x<b↔W' x∧a'≤x∧x<b')):memC W fr en a b=memC W' fr en a' b':=by
 refine jU W' fr en (zL W fr en a b) fun x=>?_
 rw[bK];constructor
 ·rintro⟨q,q1,q2⟩;have:=(h x q2.1 q2.2).1 ⟨q,q1⟩;exact⟨this.1,this.2,q2⟩
 ·rintro⟨q,q1,q2⟩;have:=(h x q2.1 q2.2).2 ⟨q,q1⟩;exact⟨this.1,this.2,q2⟩
theorem jI {a b:Int} (h:∀x,fr≤x→x<en→a≤x→x<b → ¬W x):memC W fr en a b=[]:=
 (jU W fr en lG fun x=>⟨fun q=>absurd q (by simp),fun q=>absurd q.1 (h x q.2.2.1 q.2.2.2 q.2.1.1 q.2.1.2)⟩).symm
theorem pE1 :memC W fr en fr en=memL W fr en:=by unfold memC;rw[if_pos (vF2 _),if_pos (vF2 _)]
theorem eC1 {a:Int} {l:List Int} {lo hi a1 a2:Int} (q:Int→Int) (hr:Rise (a::l)) (hq:∀x y,x≤y→q x≤q y) (ha:∀x,W x→(lo≤x∧x<hi∧q x=a↔a1≤x∧x<a2)):
  memC W fr en a1 a2++memC (fun x=>W x∧q x∈l) fr en lo hi=memC (fun x=>W x∧q x∈a::l) fr en lo hi:=by
 have hr:=kE.1 hr;refine jU _ fr en (yM.2 ⟨zL W fr en _ _,zL _ fr en _ _,fun x hx y hy=>?_⟩) fun x=>?_
 ·have h1:=(bK W fr en).1 hx;have h2:=(bK _ fr en).1 hy;have h3:=(ha x h1.1).2 h1.2.1;have h4:=hr.1 _ h2.1.2;refine Classical.byContradiction fun c=>?_
  have:=hq y x (by omega);omega
 ·rw[xE2,bK,bK,pE2];constructor
  ·rintro(⟨h,h1,h2⟩ | ⟨⟨h,h0⟩,h1,h2⟩)
   ·have:=(ha x h).2 h1;exact⟨⟨h,.inl this.2.2⟩,⟨this.1,this.2.1⟩,h2⟩
   ·exact⟨⟨h,.inr h0⟩,h1,h2⟩
  ·rintro⟨⟨h,h0⟩,h1,h2⟩;rcases h0 with h0 | h0
   ·exact .inl ⟨h,(ha x h).1 ⟨h1.1,h1.2,h0⟩,h2⟩
   ·exact .inr ⟨⟨h,h0⟩,h1,h2⟩
end
noncomputable def bP (po l:List Int):List Int:=if po=[]then l else l.filter fun x=>ind (rC1 po l x)
def picP (iv:Int) (po:List Int) (s:Int) (F:Int→Bool) (pr:Int→Int) (h m c:List Int) (t:Int):Prop:=
 rawP iv s F pr h m c t∧(po=[] ∨ ∃G:List Int,Rise G∧(∀x,x∈G↔rawP iv s F pr h m c x∧pr x=pr t)∧rC1 po (G.take 100001) t)
theorem iP1 {iv un:Int} {en:Bool} {po:List Int} {s:Int} {F:Int→Bool} {pr:Int→Int} {h m c:List Int} {t:Int}:belP iv un en po s F pr h m c t↔picP iv po s F pr h m c t∧s≤t∧(en=true→t≤un):=
 ⟨fun⟨a,b,c,d⟩=>⟨⟨a,d⟩,b,c⟩,fun⟨⟨a,d⟩,b,c⟩=>⟨a,b,c,d⟩⟩
theorem fR {po l:List Int} (h:Rise l):Rise (bP po l):=by
 unfold bP;split
 ·exact h
 ·exact List.Pairwise.sublist qH2 h
theorem dW {iv:Int} {po:List Int} {s:Int} {F:Int→Bool} {pr:Int→Int} {h m c:List Int} {a b:Int} {G:List Int} (hG:Rise G) (hm:∀x,x∈G↔rawP iv s F pr h m c x∧a≤x∧x<b)
  (hp:∀x y,inT x→inT y→a≤x→x<b→(pr y=pr x↔a≤y∧y<b)) (hlen:po=[]→G.length≤100001) (x:Int):x∈bP po (G.take 100001)↔picP iv po s F pr h m c x∧a≤x∧x<b:=by
 have hsame:∀x,inT x→a≤x→x<b → ∀y,y∈G↔rawP iv s F pr h m c y∧pr y=pr x:=fun x hx h1 h2 y=>by
  rw[hm];constructor
  ·rintro⟨q,q1⟩;exact⟨q,(hp x y hx q.1 h1 h2).2 q1⟩
  ·rintro⟨q,q1⟩;exact⟨q,(hp x y hx q.1 h1 h2).1 q1⟩
 unfold bP picP;by_cases cp:po=[]
 ·rw[if_pos cp,cF2 (hlen cp),hm];exact⟨fun q=>⟨⟨q.1,.inl cp⟩,q.2⟩,fun q=>⟨q.1.1,q.2⟩⟩
 ·rw[if_neg cp,zF2,gK];constructor
  ·rintro⟨q,q1⟩;have q2:=(hm x).1 (List.mem_of_mem_take q);exact⟨⟨q2.1,.inr ⟨G,hG,hsame x q2.1.1 q2.2.1 q2.2.2,q1⟩⟩,q2.2⟩
  ·rintro⟨⟨q,q1⟩,q2⟩;rcases q1 with q1 | ⟨G',g1,g2,g3⟩
   ·exact absurd q1 cp
   ·have e:G'=G:=kL g1 hG fun y=>by rw[g2,hsame x q.1 q2.1 q2.2]
    subst e;refine⟨?_,g3⟩;obtain⟨_,i,i1,i2,_⟩:=g3;rw[←i2];exact yG i1
theorem iY1 {P:PlT} {L:List Int} (p:Int→Bool) (hl:L.length≤1000000) (hp:∀x,fF.f P x L=some (p x,())):∀(n i:Nat),L.length-i=n→i≤L.length → ∀acc:List Int,acc.length≤i →
  vB.l1 L L (L.length:Int) i P acc=some (acc++(L.drop i).filter p,()):=by
 have hlim:eD=17179869184:=rfl;intro n
 induction n with
 | zero=>
  intro i hn hi acc ha;have e:i=L.length:=by omega
  subst e;rw[vB.l1_eq];simp(disch:=omega)only[ss];rw[jF2,xH2,zE2]
 | succ n ih=>
  intro i hn hi acc ha;have hlt:i<L.length:=by omega
  rw[vB.l1_eq,nF2,iB 0 hlt,hp];generalize L.getD i 0=x
  cases hx:p x with
  | true=>
   have ih':=ih (i+1) (by omega) (by omega) (acc++[x]) (by rw[nG];omega);rw[gF2,hF2]at ih';rw[List.filter_cons_of_pos hx];simp(disch:=omega)only[ss,vE2,hlim];rw[ih',uE2];rfl
  | false=>
   have ih':=ih (i+1) (by omega) (by omega) acc (by omega);rw[gF2,hF2]at ih';rw[List.filter_cons_of_neg (by rw[hx];simp)];simp(disch:=omega)only[ss];exact ih'
theorem jA1 {P:PlT} {r:Rl} {s:Int} {F:Int→Bool} {pr:Int→Int} {h m c:List Int} (hP:PlanOK P r s F pr h m c) {L:List Int} (hr:Rise L) (hl:L.length≤1000000):
  vB.f P L=some (bP r.2.2.2.2.2.2.2.2.2.2.2.2.2.2.1 L,()):=by
 have lp:=hP.lp;have hpk:=fun x=>cK1 hP x L hr hl
 rw[vB.f_eq,hP.er];generalize r.2.2.2.2.2.2.2.2.2.2.2.2.2.2.1=po at lp hpk ⊢;unfold bP;by_cases cp:po=[]
 ·rw[if_pos cp,dp (show(po.length:Int)=0 by rw[cp];rfl),cond_true]
 ·have:=wF.1 cp;have hl1:=iY1 _ hl hpk L.length 0 (by omega) (kE2 _) [] (kE2 _);rw[qE2,yE2,dF2]at hl1;rw[if_neg cp,dn (show ¬(po.length:Int)=0 by omega),cond_false,hl1]
section
variable {σ : Type} (yes : σ → Int → σ × Bool)
def run :σ→List Int→σ×Bool
 | s,[]=>(s,true)
 | s,x::l=>if(yes s x).2=true then run (yes s x).1 l else((yes s x).1,false)
theorem sT (s:σ) (x:Int) (l:List Int):run yes s (x::l)=if(yes s x).2=true then run yes (yes s x).1 l else((yes s x).1,false):=rfl
theorem mF1 :∀(s:σ) (a b:List Int),run yes s (a++b)=if(run yes s a).2=true then run yes (run yes s a).1 b else((run yes s a).1,false)
 | s,[],b=>rfl
 | s,x::a,b=>by
  rw[fH2,sT,sT];by_cases c:(yes s x).2=true
  ·rw[if_pos c,if_pos c,mF1 (yes s x).1 a b]
  ·rw[if_neg c,if_neg c,if_neg (by simp)]
theorem mW1 (s:σ):run yes s []=(s,true):=rfl
end
def yesF (M:Int) (l:List Int) (t:Int):List Int×Bool:=(l++[t],decide (((l++[t]).length:Int)<M))
theorem gB2 (M:Nat):∀(X l:List Int),l.length<M→run (yesF M) l X=((l++X).take M,decide ((l++X).length<M))
 | [],l,h=>by rw[mW1,zE2,cF2 (by omega),dp h]
 | x::X,l,h=>by
  rw[sT];have e:l++x::X=(l++[x])++X:=by simp
  have hl:(l++[x]).length=l.length+1:=nG l x;show(if decide (((l++[x]).length:Int)<M)=true then run (yesF M) (l++[x]) X else(l++[x],false))=_;rw[hl];by_cases c:l.length+1<M
  ·rw[dp (show((l.length+1:Nat):Int)<M by omega),if_pos rfl,gB2 M X (l++[x]) (by omega),e]
  ·rw[dn (show ¬((l.length+1:Nat):Int)<M by omega),if_neg (by simp),e,jG2 (by omega),cF2 (by omega),dn];rw[jE2];omega
theorem gL :∀{l:List Int},Rise l → ∀{a b:Int},(∀x,x∈l→a≤x∧x≤b)→l.length≤(b+1-a).toNat
 | [],_,_,_,_=>kE2 _
 | x::l,hr,a,b,h=>by
  have h0:=h x (nE2 ..)
  have:=gL (kE.1 hr).2 (a:=x+1) (b:=b) fun y hy=>by have:=h y (mE2 _ hy);have:=(kE.1 hr).1 y hy;omega
  rw[iF2];omega
theorem eH1 {h m c:List Int} (oh:okT h 23) (om:okT m 59) (oc:okT c 59) (lo hi d:Int):(dayL h m c lo hi d).length≤86400:=by
 have:=gL (zV oh.1 om.1 oc.1 om.2.1 oc.2.1 lo hi d) (a:=d*86400) (b:=d*86400+86399) fun x hx=>by have:=(sP oh.2.1 om.2.1 oc.2.1 lo hi d x).1 hx;omega
 omega
theorem gV (po l:List Int):(bP po l).length≤l.length:=by
 unfold bP;split
 ·exact rE2 _
 ·exact List.length_filter_le _ _
def minL (t:Int) (c:List Int):List Int:=c.map fun s=>t+s
def rB1 (t:Int) (m c:List Int):List Int:=m.flatMap fun b=>minL (t+60*b) c
theorem qP {t x:Int} {c:List Int}:x∈minL t c↔x-t∈c:=by
 unfold minL;rw[kF2];constructor
 ·rintro⟨s,hs,e⟩;rw[show x-t=s by omega];exact hs
 ·intro h;exact⟨_,h,by omega⟩
theorem wX {c:List Int} (rc:Rise c) (t:Int):Rise (minL t c):=kT rc _ fun x y h=>by omega
theorem gC1 {t x:Int} {m c:List Int} (hc:inR c 59):x∈rB1 t m c↔(x-t)/60∈m∧(x-t)%60∈c:=by
 unfold rB1;rw[aH2];constructor
 ·rintro⟨b,hb,hx⟩;have hs:=qP.1 hx;have:=hc _ hs;have e1:(x-t)/60=b:=by omega
  have e2:(x-t)%60=x-(t+60*b):=by omega
  rw[e1,e2];exact⟨hb,hs⟩
 ·rintro⟨h1,h2⟩;refine⟨_,h1,qP.2 ?_⟩;rw[show x-(t+60*((x-t)/60))=(x-t)%60 by omega];exact h2
theorem dO {m c:List Int} (rm:Rise m) (rc:Rise c) (hc:inR c 59) (t:Int):Rise (rB1 t m c):=by refine nP rm (fun b hb=>wX rc _) ?_;intro b b' hb hb' hlt x hx y hy;have:=hc _ (qP.1 hx);have:=hc _ (qP.1 hy);omega
section
variable {P : PlT} {r : Rl} {s0 : Int} {F : Int → Bool} {pr : Int → Int} {h m c : List Int} (hP : PlanOK P r s0 F pr h m c)
include hP
theorem vU (t:Int):Rise (minL t c):=wX hP.oc.1 t
theorem xT1 (t:Int):(minL t c).length≤1000000:=by have:=hP.oc.2.2;unfold minL;rw[gG2];omega
theorem oE1 (t:Int):(rB1 t m c).length≤3600:=by
 have:=gL (dO hP.om.1 hP.oc.1 hP.oc.2.1 t) (a:=t) (b:=t+3599) fun x hx=>by have⟨h1,h2⟩:=(gC1 hP.oc.2.1).1 hx;have:=hP.om.2.1 _ h1;omega
 omega
theorem eO (d a x:Int) (hd: -719162≤d∧d≤2932896) (ha:a∈h) (hF:F d=true) (h1:d*86400+3600*a≤x) (h2:x<d*86400+3600*a+3600):
  rawP r.2.1 s0 F pr h m c x↔(x-(d*86400+3600*a))/60∈m∧(x-(d*86400+3600*a))%60∈c∧inP r.2.1 s0 pr x:=by
 have ha0:=hP.oh.2.1 a ha;unfold rawP;rw[nG1 hP.om.2.1 hP.oc.2.1,show x%86400/3600=a by omega,show x%86400/60%60=(x-(d*86400+3600*a))/60 by omega,show x%86400%60=(x-(d*86400+3600*a))%60 by omega,show x/86400=d by omega];constructor
 ·rintro⟨_,⟨_,q1,q2⟩,q3,_⟩;exact⟨q1,q2,q3⟩
 ·rintro⟨q1,q2,q3⟩;exact⟨by unfold inT;omega,⟨ha,q1,q2⟩,q3,hF⟩
theorem lY1 (d a:Int) (hd: -719162≤d∧d≤2932896) (ha:a∈h) (hF:F d=true) (c5:r.1=5):(bP r.2.2.2.2.2.2.2.2.2.2.2.2.2.2.1 (rB1 (d*86400+3600*a) m c)).length≤1000000∧Rise (bP r.2.2.2.2.2.2.2.2.2.2.2.2.2.2.1 (rB1 (d*86400+3600*a) m c)) ∧
  (inP r.2.1 s0 pr (d*86400+3600*a) → ∀x,x∈bP r.2.2.2.2.2.2.2.2.2.2.2.2.2.2.1 (rB1 (d*86400+3600*a) m c)↔picP r.2.1 r.2.2.2.2.2.2.2.2.2.2.2.2.2.2.1 s0 F pr h m c x∧d*86400+3600*a≤x∧x<d*86400+3600*a+3600):=by
 have ha0:=hP.oh.2.1 a ha;have hlen:=oE1 hP (d*86400+3600*a);have htT:inT (d*86400+3600*a):=by unfold inT;omega
 have hper:∀x,inT x→d*86400+3600*a≤x→x<d*86400+3600*a+3600→pr x=pr (d*86400+3600*a):=fun x hx h1 h2=>by rw[hP.p5 c5 x hx,hP.p5 c5 _ htT];omega
 refine⟨sG2 (gV _ _) (by omega),fR (dO hP.om.1 hP.oc.1 hP.oc.2.1 _),fun hin x=>?_⟩
 have:=dW (po:=r.2.2.2.2.2.2.2.2.2.2.2.2.2.2.1) (iv:=r.2.1) (s:=s0) (F:=F) (pr:=pr) (h:=h) (m:=m) (c:=c) (a:=d*86400+3600*a) (b:=d*86400+3600*a+3600) (dO hP.om.1 hP.oc.1 hP.oc.2.1 (d*86400+3600*a)) (fun y=>by
  rw[gC1 hP.oc.2.1];constructor
  ·rintro⟨q1,q2⟩;have:=hP.om.2.1 _ q1;have hy:d*86400+3600*a≤y∧y<d*86400+3600*a+3600:=by omega
   refine⟨(eO hP d a y hd ha hF hy.1 hy.2).2 ⟨q1,q2,?_⟩,hy⟩;unfold inP at hin ⊢;rw[hper y (by unfold inT;omega) hy.1 hy.2];exact hin
  ·rintro⟨q,q1⟩;have:=(eO hP d a y hd ha hF q1.1 q1.2).1 q
   exact⟨this.1,this.2.1⟩) (fun x y hx hy h1 h2=>by
   rw[hP.p5 c5 x hx,hP.p5 c5 y hy]
   constructor <;> intro q <;> omega) (fun _=>by omega) x
 rw[cF2 (by omega)]at this;exact this
theorem fT1 (d a b:Int) (hd: -719162≤d∧d≤2932896) (ha:a∈h) (hb:b∈m) (hF:F d=true) (c6:r.1=6):(bP r.2.2.2.2.2.2.2.2.2.2.2.2.2.2.1 (minL (d*86400+3600*a+60*b) c)).length≤1000000∧Rise (bP r.2.2.2.2.2.2.2.2.2.2.2.2.2.2.1 (minL (d*86400+3600*a+60*b) c)) ∧
  (inP r.2.1 s0 pr (d*86400+3600*a+60*b) → ∀x,x∈bP r.2.2.2.2.2.2.2.2.2.2.2.2.2.2.1 (minL (d*86400+3600*a+60*b) c)↔picP r.2.1 r.2.2.2.2.2.2.2.2.2.2.2.2.2.2.1 s0 F pr h m c x∧d*86400+3600*a+60*b≤x∧x<d*86400+3600*a+60*b+60):=by
 have ha0:=hP.oh.2.1 a ha;have hb0:=hP.om.2.1 b hb;have hc60:=hP.oc.2.2;have hlen:(minL (d*86400+3600*a+60*b) c).length≤60:=by unfold minL;rw[gG2];exact hc60
 have htT:inT (d*86400+3600*a+60*b):=by unfold inT;omega
 refine⟨sG2 (gV _ _) (by omega),fR (vU hP _),fun hin x=>?_⟩
 have:=dW (po:=r.2.2.2.2.2.2.2.2.2.2.2.2.2.2.1) (iv:=r.2.1) (s:=s0) (F:=F) (pr:=pr) (h:=h) (m:=m) (c:=c) (a:=d*86400+3600*a+60*b) (b:=d*86400+3600*a+60*b+60) (vU hP (d*86400+3600*a+60*b)) (fun y=>by
  rw[qP];constructor
  ·intro q;have:=hP.oc.2.1 _ q;have hy:d*86400+3600*a+60*b≤y∧y<d*86400+3600*a+60*b+60:=by omega
   refine⟨(eO hP d a y hd ha hF (by omega) (by omega)).2 ⟨?_,?_,?_⟩,hy⟩
   ·rw[show(y-(d*86400+3600*a))/60=b by omega];exact hb
   ·rw[show(y-(d*86400+3600*a))%60=y-(d*86400+3600*a+60*b) by omega];exact q
   ·unfold inP at hin ⊢;rw[hP.p6 c6 y (by unfold inT;omega),show y/60=(d*86400+3600*a+60*b)/60 by omega,←hP.p6 c6 _ htT];exact hin
  ·rintro⟨q,q1⟩;have:=(eO hP d a y hd ha hF (by omega) (by omega)).1 q;rw[show y-(d*86400+3600*a+60*b)=(y-(d*86400+3600*a))%60 by omega]
   exact this.2.1) (fun x y hx hy h1 h2=>by
   rw[hP.p6 c6 x hx,hP.p6 c6 y hy]
   constructor <;> intro q <;> omega) (fun _=>by omega) x
 rw[cF2 (by omega)]at this;exact this
theorem mY1 (t:Int) (ht:inT t) (cb:Bool) (hcb:cb=true↔r.2.2.2.2.2.2.2.2.2.2.2.2.2.2.1=[]∨(1:Int)∈r.2.2.2.2.2.2.2.2.2.2.2.2.2.2.1∨(-1:Int)∈r.2.2.2.2.2.2.2.2.2.2.2.2.2.2.1):∀(n:Nat) (x:Int),(60-x).toNat≤n→0≤x→x≤2000 → ∀acc:List Int,acc.length+(60-x).toNat≤60 →
  ∃L:List Int,qA.l1 t r.2.1 x P acc=some (acc++L,())∧Rise L ∧ ∀y,y∈L↔t+x≤y∧y<t+60∧r.2.1∣y-t-x∧y-t∈c∧cb=true:=by
 have hlim:eD=17179869184:=rfl;have hiv:=hP.iv;have lp:=hP.lp;have lc:=hP.oc.2.2;have he:=hP.er;have hec:=hP.ec
 have stop:∀x:Int,¬x<60 → ∀acc:List Int,∃L:List Int,qA.l1 t r.2.1 x P acc=some (acc++L,())∧Rise L ∧ ∀y,y∈L↔t+x≤y∧y<t+60∧r.2.1∣y-t-x∧y-t∈c∧cb=true:=fun x hx acc=>by refine⟨[],?_,lG,fun y=>⟨fun q=>absurd q (by simp),fun q=>by omega⟩⟩;rw[qA.l1_eq,dn hx,cond_false,zE2]
 have hcore:∀(x:Int) (acc:List Int),x<60→qA.l1 t r.2.1 x P acc=qA.l2 t r.2.1 x (decide (x∈c)&&cb) P acc:=fun x acc hx=>by
  rw[qA.l1_eq,dp hx,cond_true,hec,fG c x (by omega),he];simp only[hE2];generalize r.2.2.2.2.2.2.2.2.2.2.2.2.2.2.1=po at hcb lp ⊢;by_cases c1:x∈c
  ·rw[dp c1,cond_true,Bool.true_and];by_cases c2:po=[]
   ·rw[dp (show(po.length:Int)=0 by rw[c2];rfl),cond_true,hcb.2 (.inl c2)]
   ·have:=wF.1 c2;rw[dn (show ¬(po.length:Int)=0 by omega),cond_false,fG po 1 (by omega),fG po (-1) (by omega)];simp only[hE2];by_cases c3:(1:Int)∈po
    ·rw[dp c3,cond_true,hcb.2 (.inr (.inl c3))]
    ·rw[dn c3,cond_false];by_cases c4:(-1:Int)∈po
     ·rw[dp c4,hcb.2 (.inr (.inr c4))]
     ·rw[dn c4,show cb=false by
       cases q:cb with
       | false=>rfl
       | true=>
        rcases hcb.1 q with z | z | z
        ·exact absurd z c2
        ·exact absurd z c3
        ·exact absurd z c4]
  ·rw[dn c1,cond_false,Bool.false_and]
 unfold inT at ht;intro n
 induction n with
 | zero=>intro x hn h0 h1 acc ha;exact stop x (by omega) acc
 | succ n ih=>
  intro x hn h0 h1 acc ha;by_cases hx:x<60
  ·have w1:w6 (x+r.2.1)=x+r.2.1:=wr (by omega) (by omega);have w2:w6 (t+x)=t+x:=wr (by omega) (by omega)
   have hstep:∀y:Int,t+x≤y→r.2.1∣y-t-x→y=t+x∨(t+(x+r.2.1)≤y∧r.2.1∣y-t-(x+r.2.1)):=fun y hy hd=>by
    obtain⟨k,hk⟩:=hd;by_cases ck:k≤0
    ·left;have:r.2.1*k≤0:=Int.mul_nonpos_of_nonneg_of_nonpos (by omega) ck;omega
    ·right;have h3:r.2.1*1≤r.2.1*k:=Int.mul_le_mul_of_nonneg_left (by omega) (by omega);rw[Int.mul_one]at h3;refine⟨by omega,k-1,?_⟩;rw[Int.mul_sub,Int.mul_one];omega
   have hback:∀y:Int,r.2.1∣y-t-(x+r.2.1)→r.2.1∣y-t-x:=fun y ⟨k,hk⟩=>⟨k+1,by rw[Int.mul_add,Int.mul_one];omega⟩
   rw[hcore x acc hx];cases hq:(decide (x∈c)&&cb)with
   | true=>
    rw[iE2,decide_eq_true_eq]at hq;obtain⟨L,g1,g2,g3⟩:=ih (x+r.2.1) (by omega) (by omega) (by omega) (acc++[t+x]) (by rw[nG];omega);refine⟨(t+x)::L,?_,kE.2 ⟨fun y hy=>?_,g2⟩,fun y=>?_⟩
    ·rw[qA.l2_eq,cond_true,w1,w2];simp(disch:=omega)only[ss,vE2,hlim];rw[g1,uE2];rfl
    ·have:=(g3 y).1 hy;omega
    ·rw[pE2,g3];constructor
     ·rintro(e | ⟨q1,q2,q3,q4⟩)
      ·subst e;exact⟨vF2 _,by omega,⟨0,by omega⟩,by rw[show t+x-t=x by omega];exact hq.1,hq.2⟩
      ·exact⟨by omega,q2,hback y q3,q4⟩
     ·rintro⟨q1,q2,q3,q4⟩;rcases hstep y q1 q3 with e | e
      ·exact .inl e
      ·exact .inr ⟨e.1,q2,e.2,q4⟩
   | false=>
    obtain⟨L,g1,g2,g3⟩:=ih (x+r.2.1) (by omega) (by omega) (by omega) acc (by omega);refine⟨L,?_,g2,fun y=>?_⟩
    ·rw[qA.l2_eq,cond_false,w1];exact g1
    ·rw[g3];constructor
     ·rintro⟨q1,q2,q3,q4⟩;exact⟨by omega,q2,hback y q3,q4⟩
     ·rintro⟨q1,q2,q3,q4,q5⟩;rcases hstep y q1 q3 with e | e
      ·rw[e,show t+x-t=x by omega]at q4;rw[dp q4,q5]at hq;cases hq
      ·exact⟨e.1,q2,e.2,q4,q5⟩
  ·exact stop x hx acc
theorem lR1 (d a b:Int) (hd: -719162≤d∧d≤2932896) (ha:a∈h) (hb:b∈m) (hF:F d=true) (c7:r.1=7):
  ∃L:List Int,L.length≤1000000∧(Rise L ∧ ∀x,x∈L↔picP r.2.1 r.2.2.2.2.2.2.2.2.2.2.2.2.2.2.1 s0 F pr h m c x∧d*86400+3600*a+60*b≤x∧x<d*86400+3600*a+60*b+60)∧qA.f P (d*86400+3600*a+60*b)=some (L,()):=by
 have ha0:=hP.oh.2.1 a ha;have hb0:=hP.om.2.1 b hb;have hiv:=hP.iv;have hS:=hP.inS;have htT:inT (d*86400+3600*a+60*b):=by unfold inT;omega
 obtain⟨t,ht⟩:∃t,d*86400+3600*a+60*b=t:=⟨_,rfl⟩
 obtain⟨cb,hcb⟩:∃cb:Bool,cb=true↔r.2.2.2.2.2.2.2.2.2.2.2.2.2.2.1=[]∨(1:Int)∈r.2.2.2.2.2.2.2.2.2.2.2.2.2.2.1∨(-1:Int)∈r.2.2.2.2.2.2.2.2.2.2.2.2.2.2.1:=⟨ind _,gK⟩
 have hx0:0≤(s0-t)%r.2.1:=Int.emod_nonneg _ (by omega);have hx1:(s0-t)%r.2.1<r.2.1:=dI2 _ (by omega);have htm:=Int.tmod_lt_of_pos (s0-t) (show 0<r.2.1 by omega);have htm2:=Int.lt_tmod_of_pos (s0-t) (show 0<r.2.1 by omega);unfold inT at htT hS;have hstart:Int.tmod (w6 (Int.tmod (w6 (s0-t)) r.2.1+r.2.1)) r.2.1=(s0-t)%r.2.1:=by rw[wr (x:=s0-t) (by omega) (by omega),wr (by omega) (by omega),Int.tmod_eq_emod_of_nonneg (by omega)];have e:=Int.mul_tdiv_add_tmod (s0-t) r.2.1;rw[show Int.tmod (s0-t) r.2.1+r.2.1=(s0-t)+r.2.1*(1-Int.tdiv (s0-t) r.2.1) by rw[Int.mul_sub,Int.mul_one];omega];exact Int.add_mul_emod_self_left _ _ _
 obtain⟨L,g1,g2,g3⟩:=mY1 hP t (by unfold inT;omega) cb hcb 60 ((s0-t)%r.2.1) (by omega) hx0 (by omega) [] (by simp;omega)
 have hlen:=gL g2 (a:=t) (b:=t+59) fun y hy=>by have:=(g3 y).1 hy;omega
 rw[ht];refine⟨L,by omega,⟨g2,fun x=>?_⟩,?_⟩
 ·rw[g3];have hdiv:r.2.1∣s0-t-(s0-t)%r.2.1:=⟨(s0-t)/r.2.1,by have:=Int.mul_ediv_add_emod (s0-t) r.2.1;omega⟩
  have hkey:t≤x→x<t+60→(inP r.2.1 s0 pr x↔t+(s0-t)%r.2.1≤x∧r.2.1∣x-t-(s0-t)%r.2.1):=fun q1 q2=>by
   unfold inP;rw[hP.p7 c7 x (by unfold inT;omega),hP.p7 c7 s0 hP.inS,←Int.dvd_iff_tmod_eq_zero];constructor
   ·intro q;have q':r.2.1∣x-t-(s0-t)%r.2.1:=by have:=Int.dvd_add q hdiv;rw[show x-s0+(s0-t-(s0-t)%r.2.1)=x-t-(s0-t)%r.2.1 by omega]at this;exact this
    refine⟨?_,q'⟩;obtain⟨k,hk⟩:=q';by_cases ck:k<0
    ·have h3:r.2.1*k≤r.2.1*(-1):=Int.mul_le_mul_of_nonneg_left (by omega) (by omega);omega
    ·have:0≤r.2.1*k:=Int.mul_nonneg (by omega) (by omega);omega
   ·rintro⟨_,q⟩;have:=Int.dvd_sub q hdiv;rw[show x-t-(s0-t)%r.2.1-(s0-t-(s0-t)%r.2.1)=x-s0 by omega]at this;exact this
  have hraw:t≤x→x<t+60→(rawP r.2.1 s0 F pr h m c x↔x-t∈c∧inP r.2.1 s0 pr x):=fun q1 q2=>by rw[eO hP d a x hd ha hF (by omega) (by omega),show(x-(d*86400+3600*a))/60=b by omega,show(x-(d*86400+3600*a))%60=x-t by omega];exact⟨fun q=>q.2,fun q=>⟨hb,q⟩⟩
  have hpl:rawP r.2.1 s0 F pr h m c x→((r.2.2.2.2.2.2.2.2.2.2.2.2.2.2.1=[] ∨ ∃G:List Int,Rise G∧(∀y,y∈G↔rawP r.2.1 s0 F pr h m c y∧pr y=pr x)∧rC1 r.2.2.2.2.2.2.2.2.2.2.2.2.2.2.1 (G.take 100001) x)↔cb=true):=fun q=>by
   have hG:∀G:List Int,Rise G→(∀y,y∈G↔rawP r.2.1 s0 F pr h m c y∧pr y=pr x)→G=[x]:=fun G z1 z2=>by
    refine kL z1 (kE.2 ⟨fun y hy=>absurd hy (by simp),lG⟩) fun y=>?_
    rw[z2,wF2];constructor
    ·rintro⟨w,w1⟩;rw[hP.p7 c7 y w.1,hP.p7 c7 x q.1]at w1;exact w1
    ·intro w;subst w;exact⟨q,rfl⟩
   rw[hcb];constructor
   ·rintro(z | ⟨G,z1,z2,z3⟩)
    ·exact .inl z
    ·rw[hG G z1 z2]at z3;obtain⟨_,i,i1,i2,i3⟩:=z3;have:i=0:=by simpa using i1
     subst this;rcases i3 with i3 | i3
     ·exact .inr (.inl (by simpa using i3))
     ·exact .inr (.inr (by simpa using i3))
   ·rintro(z | z)
    ·exact .inl z
    ·refine .inr ⟨[x],kE.2 ⟨fun y hy=>absurd hy (by simp),lG⟩,fun y=>?_,?_⟩
     ·rw[wF2];constructor
      ·intro w;subst w;exact⟨q,rfl⟩
      ·rintro⟨w,w1⟩;rw[hP.p7 c7 y w.1,hP.p7 c7 x q.1]at w1;exact w1
     ·refine⟨by simp,0,by simp,rfl,?_⟩;rcases z with z | z
      ·exact .inl (by simpa using z)
      ·exact .inr (by simpa using z)
  unfold picP;constructor
  ·rintro⟨q1,q2,q3,q4,q5⟩;have hr:=(hraw (by omega) q2).2 ⟨q4,(hkey (by omega) q2).2 ⟨q1,q3⟩⟩;exact⟨⟨hr,(hpl hr).2 q5⟩,by omega,q2⟩
  ·rintro⟨⟨q,q1⟩,q2,q3⟩;have h1:=(hraw q2 q3).1 q;have h2:=(hkey q2 q3).1 h1.2;exact⟨h2.1,q3,h2.2,h1.1,(hpl q).1 q1⟩
 ·rw[qA.f_eq,hP.er,hP.es,hstart,dn (show ¬r.2.1=0 by omega),eF2,cond_true,cond_true];rw[dF2]at g1;exact g1
end
abbrev clA (K:Int) (l:List Int):(List Int×Unit)×(Int×Unit)×Unit:=((l,()),(K,()),())
abbrev yA :=yesF
def invA (K:Int) (l:List Int):Prop:=(l.length:Int)<K∧K≤100000
theorem yesA {K:Int} {l:List Int} (hi:invA K l) (x:Int):pI.f x (l,()) (K,())=some ((yA K l x).2,((yA K l x).1,()),(K,()),())∧((yA K l x).2=true→invA K (yA K l x).1):=by
 unfold invA at hi ⊢;have hlim:eD=17179869184:=rfl;constructor
 ·rw[pI.f_eq];simp(disch:=omega)only[ss,vE2,hlim];rfl
 ·intro h;exact⟨of_decide_eq_true h,hi.2⟩
section
variable {K fr en : Int}
theorem rR1 {L:List Int} (hl:L.length≤1000000):∀(n i:Nat),L.length-i=n→i≤L.length → ∀s:List Int,invA K s →
  ∃s' b,run (yA K) s ((L.drop i).filter (inW fr en))=(s',b)∧(b=true→invA K s')∧uA.l1 L (L.length:Int) (i:Int) fr en K s=some (b,(fr,()),(en,()),(clA K s',()),()):=by
 intro n
 induction n with
 | zero=>
  intro i hn hi s hs;have e:i=L.length:=by omega
  subst e;refine⟨s,true,by rw[jF2];rfl,fun _=>hs,?_⟩;rw[uA.l1_eq];simp(disch:=omega)only[ss]
 | succ n ih=>
  intro i hn hi s hs;have hlt:i<L.length:=by omega
  have ih':=ih (i+1) (by omega) (by omega);rw[gF2,hF2]at ih';rw[uA.l1_eq,nF2,iB 0 hlt];generalize L.getD i 0=x;by_cases c:fr≤x∧x<en
  ·have hin:inW fr en x=true:=by unfold inW;rw[dp c.1,dp c.2];rfl
   rw[List.filter_cons_of_pos hin,sT];obtain⟨hy,hinv⟩:=yesA hs x
   cases hb:(yA K s x).2 with
   | true=>
    obtain⟨s',b,h1,h2,h3⟩:=ih' _ (hinv hb);refine⟨s',b,by rw[if_pos rfl];exact h1,h2,?_⟩;simp(disch:=omega)only[ss,hy,hb,uA.l2_eq];exact h3
   | false=>
    refine⟨_,false,by rw[if_neg (by simp)],(fun q=>by cases q),?_⟩;simp(disch:=omega)only[ss,hy,hb,uA.l2_eq]
  ·have hin:inW fr en x=false:=by
    cases q:inW fr en x with
    | false=>rfl
    | true=>
     unfold inW at q;rw[iE2,decide_eq_true_eq,decide_eq_true_eq]at q;exact absurd q c
   rw[List.filter_cons_of_neg (by rw[hin];simp)];obtain⟨s',b,h1,h2,h3⟩:=ih' s hs;refine⟨s',b,h1,h2,?_⟩;by_cases c1:fr≤x
   ·simp(disch:=omega)only[ss,uA.l2_eq];exact h3
   ·simp(disch:=omega)only[ss,uA.l2_eq];exact h3
theorem tM1 {L:List Int} (hl:L.length≤1000000) (s:List Int) (hs:invA K s):
  ∃s' b,run (yA K) s (L.filter (inW fr en))=(s',b)∧(b=true→invA K s')∧uA.f L (fr,()) (en,()) (clA K s,())=some (b,(fr,()),(en,()),(clA K s',()),()):=by
 have h:=rR1 (fr:=fr) (en:=en) hl L.length 0 (by omega) (kE2 _) s hs;rw[qE2,yE2]at h;rw[uA.f_eq];exact h
theorem sO {s s1 s2:List Int} {a b c:List Int} {q:Bool} (e:a++b=c) (h1:run (yA K) s a=(s1,true)) (h2:run (yA K) s1 b=(s2,q)):run (yA K) s c=(s2,q):=by rw[←e,mF1,h1,if_pos rfl,h2]
theorem aM {s s1:List Int} {a b c:List Int} (e:a++b=c) (h1:run (yA K) s a=(s1,false)):run (yA K) s c=(s1,false):=by rw[←e,mF1,h1,if_neg (by simp)]
end
section
variable {P : PlT} {r : Rl} {s0 : Int} {F : Int → Bool} {pr : Int → Int} {h m c : List Int} (hP : PlanOK P r s0 F pr h m c) {K fr en : Int} (hfr : -63000000000 ≤ fr ∧ fr ≤ 300000000000) (hen : -63000000000 ≤ en ∧ en ≤ 300000000000)
include hP
theorem pX1 (W:Int→Prop) (A B hi E:Int) (hE:mm false B hi=E) (hEB:E≤B) (hA: -719162≤A) (hB:B≤2932896)
  (hday:∀d,A≤d→d≤B→F d=true→(dayL h m c 0 86400 d).filter (inW fr en)=memC W fr en (d*86400) ((d+1)*86400)) (hno:∀d,A≤d→d≤B→F d=false→memC W fr en (d*86400) ((d+1)*86400)=[]):
  ∀(n:Nat) (d:Int),(E+1-d).toNat=n→A≤d → ∀s:List Int,invA K s →
  ∃s' b,run (yA K) s (memC W fr en (d*86400) ((E+1)*86400))=(s',b)∧(b=true→invA K s')∧kA.l1 B hi d fr en K s P=some (b,((fr,()),(en,()),(clA K s',()),()),()):=by
 intro n
 induction n with
 | zero=>
  intro d hn hd s hs;refine⟨s,true,by rw[jI W fr en (fun x _ _ h1 h2=>by omega)];rfl,fun _=>hs,?_⟩;rw[kA.l1_eq,hE,dn (show ¬d≤E by omega),cond_false]
 | succ n ih=>
  intro d hn hd s hs;have hdE:d≤E:=by omega
  have hw:w6 (d+1)=d+1:=wr (by omega) (by omega);have hsp:=oR W fr en (a:=d*86400) (b:=(d+1)*86400) (c:=(E+1)*86400) (by omega) (by omega);rw[kA.l1_eq,hE,dp hdE,cond_true,cC.f_eq,hP.fits d];simp only[hE2]
  cases hF:F d with
  | false=>
   rw[hno d hd (by omega) hF,dF2]at hsp;obtain⟨s',b,h1,h2,h3⟩:=ih (d+1) (by omega) (by omega) s hs;refine⟨s',b,by rw[←hsp];exact h1,h2,?_⟩;rw[cond_false,kA.l2_eq,cond_false,hw];exact h3
  | true=>
   have hdv:=eM1 0 86400 d P 100000 (by omega) (by omega) (by omega) (by omega) (by rw[hP.eh];exact hP.oh) (by rw[hP.em];exact hP.om) (by rw[hP.ec];exact hP.oc);rw[hP.eh,hP.em,hP.ec,show((100000:Nat):Int)=100000 from rfl,cF2 (sG2 (eH1 hP.oh hP.om hP.oc 0 86400 d) (by decide))]at hdv;obtain⟨s1,b1,g1,g2,g3⟩:=tM1 (K:=K) (fr:=fr) (en:=en) (L:=dayL h m c 0 86400 d) (sG2 (eH1 hP.oh hP.om hP.oc 0 86400 d) (by decide)) s hs;rw[hday d hd (by omega) hF]at g1;rw[cond_true,hdv];simp only[hE2];rw[g3];simp only[hE2]
   cases b1 with
   | false=>
    refine⟨s1,false,aM hsp g1,(fun q=>by cases q),?_⟩;rw[kA.l2_eq,eF2,cond_true]
   | true=>
    obtain⟨s',b,h1,h2,h3⟩:=ih (d+1) (by omega) (by omega) s1 (g2 rfl);refine⟨s',b,sO hsp g1 h1,h2,?_⟩;rw[kA.l2_eq,lE2,cond_false,hw];exact h3
include hfr hen
theorem perA (t A B:Int) (ht:inT t) (hA: -719162≤A) (hB:B≤2932896) (hAB:A≤t/86400∧t/86400≤B) (hp:∀x,inT x→(pr x=pr t↔A≤x/86400∧x/86400≤B)) (hin:inP r.2.1 s0 pr t) (s:List Int) (hs:invA K s):
  ∃s' b,run (yA K) s (memC (picP r.2.1 r.2.2.2.2.2.2.2.2.2.2.2.2.2.2.1 s0 F pr h m c) fr en (A*86400) ((B+1)*86400))=(s',b)∧(b=true→invA K s') ∧
   kA.f P t A B fr en ((fr,()),(en,()),(clA K s,()),())=some (b,((fr,()),(en,()),(clA K s',()),()),()):=by
 have hpp:∀x y,inT x→inT y→A*86400≤x→x<(B+1)*86400→(pr y=pr x↔A*86400≤y∧y<(B+1)*86400):=fun x y hx hy h1 h2=>by rw[(hp x hx).2 (by omega),hp y hy];constructor <;> intro q <;> omega
 rw[kA.f_eq,hP.er];have hpv:=fun L hr hl=>jA1 hP (L:=L) hr hl
 have hpm:=fun G (hG:Rise G) (hm:∀x,x∈G↔rawP r.2.1 s0 F pr h m c x∧A*86400≤x∧x<(B+1)*86400) hlen=>dW (po:=r.2.2.2.2.2.2.2.2.2.2.2.2.2.2.1) hG hm hpp hlen
 generalize r.2.2.2.2.2.2.2.2.2.2.2.2.2.2.1=po at hpv hpm ⊢;by_cases cp:po=[]
 ·have hd1:=(qF fr (by omega) (by omega)).1;have hd2:=(qF en (by omega) (by omega)).1;obtain⟨E,hE⟩:∃E,mm false B (en/86400)=E:=⟨_,rfl⟩
  obtain⟨D,hD⟩:∃D,mm true A (fr/86400)=D:=⟨_,rfl⟩
  have hE':=hE;have hD':=hD;rw[zB1]at hE';rw[tY]at hD';have hraw:∀x,picP r.2.1 po s0 F pr h m c x↔rawP r.2.1 s0 F pr h m c x:=fun x=>⟨fun q=>q.1,fun q=>⟨q,.inl cp⟩⟩
  have hl:=pX1 hP (K:=K) (picP r.2.1 po s0 F pr h m c) A B (en/86400) E hE (by omega) hA hB
   (fun d h1 h2 hF=>iV _ fr en (zV hP.oh.1 hP.om.1 hP.oc.1 hP.om.2.1 hP.oc.2.1 0 86400 d) fun x=>by
    rw[sP hP.oh.2.1 hP.om.2.1 hP.oc.2.1,hraw];constructor
    ·rintro⟨q1,q2,q3,q4⟩;have hx:inT x:=by unfold inT;omega
     refine⟨⟨hx,q2,?_,by rw[q1];exact hF⟩,by omega,by omega⟩;unfold inP at hin ⊢;rw[(hp x hx).2 (by omega)];exact hin
    ·rintro⟨q,q1,q2⟩
     exact⟨by omega,q.2.1,by omega,by omega⟩)
   (fun d h1 h2 hF=>jI _ fr en fun x _ _ q1 q2 q=>by
    have q:=((hraw x).1 q).2.2.2;rw[show x/86400=d by omega,hF]at q
    cases q) (E+1-D).toNat D rfl (by omega) s hs
  obtain⟨s',b,h1,h2,h3⟩:=hl
  have e:memC (picP r.2.1 po s0 F pr h m c) fr en (A*86400) ((B+1)*86400)=memC (picP r.2.1 po s0 F pr h m c) fr en (D*86400) ((E+1)*86400):=aN _ fr en fun x q1 q2=>by
   constructor
   ·rintro⟨q,q3,q4⟩;exact⟨q,by omega,by omega⟩
   ·rintro⟨q,q3,q4⟩;exact⟨q,by omega,by omega⟩
  refine⟨s',b,by rw[e];exact h1,h2,?_⟩;rw[dn (show ¬(po.length:Int)>0 by rw[cp];simp),cond_false,hd1,hd2];simp only[hE2];rw[hD];exact h3
 ·have hpos:=wF.1 cp;obtain⟨G,G1,G2,G3⟩:=xX1 hP t ht;have g:=G3 100000 (by omega);rw[show((100000:Nat):Int)=100000 from rfl]at g;have hlen:(G.take (100000+1)).length≤1000000:=by rw[fF2];omega
  have hm:∀x,x∈G↔rawP r.2.1 s0 F pr h m c x∧A*86400≤x∧x<(B+1)*86400:=fun x=>by
   rw[G2];constructor
   ·rintro⟨q,q1⟩;have:=(hp x q.1).1 q1;exact⟨q,by omega,by omega⟩
   ·rintro⟨q,q1⟩;exact⟨q,(hp x q.1).2 (by omega)⟩
  have hpk:=hpv _ (wV G1 (100000+1)) hlen;have hlp:(bP po (G.take (100000+1))).length≤1000000:=sG2 (gV po _) hlen;obtain⟨s',b,h1,h2,h3⟩:=tM1 (K:=K) (fr:=fr) (en:=en) hlp s hs;rw[iV _ fr en (fR (wV G1 (100000+1))) (hpm G G1 hm (fun q=>absurd q cp))]at h1;refine⟨s',b,h1,h2,?_⟩;rw[dp hpos,cond_true,g];simp only[hE2];rw[hpk];simp only[hE2];rw[h3];rfl
theorem cS1 (hf:r.1≤4) (hs0:s0≤fr) (hen2:en≤253402300800):∀(n:Nat) (t:Int),(en-t).toNat≤n→fr≤t→(t<en → ∀x,inT x→fr≤x→x<t→pr x≠pr t) → ∀s:List Int,invA K s →
  ∃s' b,run (yA K) s (memC (picP r.2.1 r.2.2.2.2.2.2.2.2.2.2.2.2.2.2.1 s0 F pr h m c) fr en t en)=(s',b)∧rA.l1 fr en t fr en K s P=some (((fr,()),(en,()),(clA K s',()),()),()):=by
 have hstop:∀t:Int,¬t<en → ∀s:List Int,invA K s → ∃s' b,run (yA K) s (memC (picP r.2.1 r.2.2.2.2.2.2.2.2.2.2.2.2.2.2.1 s0 F pr h m c) fr en t en)=(s',b)∧rA.l1 fr en t fr en K s P=some (((fr,()),(en,()),(clA K s',()),()),()):=fun t c s hs=>by refine⟨s,true,by rw[jI _ fr en (fun x _ _ h1 h2=>by omega)];rfl,?_⟩;rw[rA.l1_eq,dn c,cond_false]
 intro n
 induction n with
 | zero=>
  intro t hn ht hI s hs;exact hstop t (by omega) s hs
 | succ n ih=>
  intro t hn ht hI s hs;by_cases cT:t<en
  ·have hS:=hP.inS;have htT:inT t:=by unfold inT at hS ⊢;omega
   obtain⟨A,B,g1,g2,g3,_⟩:=hP.days t htT;have hp:=g3 hf;have hw1:w6 (B+1)=B+1:=wr (by omega) (by omega);have hw2:w6 ((B+1)*86400)=(B+1)*86400:=wr (by omega) (by omega)
   have hI':(B+1)*86400<en → ∀x,inT x→fr≤x→x<(B+1)*86400→pr x≠pr ((B+1)*86400):=fun q x hx h1 h2 e=>by
    have hT':inT ((B+1)*86400):=by unfold inT at hS ⊢;omega
    have hy:inT (B*86400):=by unfold inT;omega
    by_cases cx:x≤B*86400
    ·have e1:=hP.mono x _ hx hy cx;have e2:=hP.mono _ _ hy hT' (by omega);have e3:=(hp _ hy).2 ⟨by omega,by omega⟩;have:=(hp _ hT').1 (by omega);omega
    ·have e3:=(hp x hx).2 ⟨by omega,by omega⟩;have:=(hp _ hT').1 (by omega);omega
   have ih':=ih ((B+1)*86400) (by omega) (by omega) hI';have hsp:=oR (picP r.2.1 r.2.2.2.2.2.2.2.2.2.2.2.2.2.2.1 s0 F pr h m c) fr en (a:=t) (b:=(B+1)*86400) (c:=if(B+1)*86400≤en then en else(B+1)*86400) (by omega) (by split <;> omega)
   have hlast:memC (picP r.2.1 r.2.2.2.2.2.2.2.2.2.2.2.2.2.2.1 s0 F pr h m c) fr en t (if(B+1)*86400≤en then en else(B+1)*86400)=memC (picP r.2.1 r.2.2.2.2.2.2.2.2.2.2.2.2.2.2.1 s0 F pr h m c) fr en t en:=aN _ fr en fun x q1 q2=>by
    split
    ·exact Iff.rfl
    ·exact⟨fun q=>⟨q.1,q.2.1,by omega⟩,fun q=>⟨q.1,q.2.1,by omega⟩⟩
   have hnext:memC (picP r.2.1 r.2.2.2.2.2.2.2.2.2.2.2.2.2.2.1 s0 F pr h m c) fr en ((B+1)*86400) (if(B+1)*86400≤en then en else(B+1)*86400)=memC (picP r.2.1 r.2.2.2.2.2.2.2.2.2.2.2.2.2.2.1 s0 F pr h m c) fr en ((B+1)*86400) en:=aN _ fr en fun x q1 q2=>by
    split
    ·exact Iff.rfl
    ·exact⟨fun q=>⟨q.1,q.2.1,by omega⟩,fun q=>⟨q.1,q.2.1,by omega⟩⟩
   rw[hlast,hnext]at hsp;rw[rA.l1_eq,dp cT,cond_true,g1];simp only[hE2];rw[hJ1 hP t htT];simp only[hE2];by_cases cin:inP r.2.1 s0 pr t
   ·obtain⟨s1,b1,k1,k2,k3⟩:=perA hP hfr hen (K:=K) t A B htT (by omega) (by omega) ⟨g2.1,g2.2.1⟩ hp cin s hs
    have e:memC (picP r.2.1 r.2.2.2.2.2.2.2.2.2.2.2.2.2.2.1 s0 F pr h m c) fr en (A*86400) ((B+1)*86400)=memC (picP r.2.1 r.2.2.2.2.2.2.2.2.2.2.2.2.2.2.1 s0 F pr h m c) fr en t ((B+1)*86400):=aN _ fr en fun x q1 q2=>by
     constructor
     ·rintro⟨q,q3,q4⟩;refine⟨q,?_,q4⟩;refine Classical.byContradiction fun z=>?_
      exact hI cT x q.1.1 q1 (by omega) ((hp x q.1.1).2 ⟨by omega,by omega⟩)
     ·rintro⟨q,q3,q4⟩;exact⟨q,by omega,q4⟩
    rw[e]at k1;rw[dp cin,cond_true,k3];simp only[hE2];rw[rA.l2_eq]
    cases b1 with
    | false=>exact⟨s1,false,aM hsp k1,rfl⟩
    | true=>
     obtain⟨s',b,h1,h2⟩:=ih' s1 (k2 rfl);refine⟨s',b,sO hsp k1 h1,?_⟩;rw[lE2,cond_false,hw1,hw2];exact h2
   ·have e:memC (picP r.2.1 r.2.2.2.2.2.2.2.2.2.2.2.2.2.2.1 s0 F pr h m c) fr en t ((B+1)*86400)=[]:=jI _ fr en fun x _ _ q3 q4 q=>by have q5:=q.1.2.2.1;unfold inP at cin q5;rw[(hp x q.1.1).2 ⟨by omega,by omega⟩]at q5;exact cin q5
    rw[e,dF2]at hsp;obtain⟨s',b,h1,h2⟩:=ih' s hs;refine⟨s',b,by rw[←hsp];exact h1,?_⟩;rw[dn cin,cond_false,rA.l2_eq,cond_false,hw1,hw2];exact h2
  ·exact hstop t cT s hs
theorem jC2 (hf:r.1≤4) (hs0:s0≤fr) (hen2:en≤253402300800) (s:List Int) (hs:invA K s):
  ∃s' b,run (yA K) s (memL (picP r.2.1 r.2.2.2.2.2.2.2.2.2.2.2.2.2.2.1 s0 F pr h m c) fr en)=(s',b)∧rA.f P fr en ((fr,()),(en,()),(clA K s,()),())=some (((fr,()),(en,()),(clA K s',()),()),()):=by
 obtain⟨s',b,h1,h2⟩:=cS1 hP hfr hen (K:=K) hf hs0 hen2 _ fr (rE2 _) (vF2 _) (fun _ x _ q1 q2=>by omega) s hs;rw[pE1]at h1;refine⟨s',b,h1,?_⟩;rw[rA.f_eq];exact h2
end
section
variable {K fr en : Int} {P : PlT}
theorem lM1 {c:List Int} (hc:okT c 59) (at_ t:Int) (ht: -63000000000≤t∧t≤300000000000) (m:List Int) (ml i:Int) (s:List Int):∀(n j:Nat),c.length-j=n→j≤c.length → ∀acc:List Int,acc.length≤j →
  dA.l2a at_ t m ml i c (c.length:Int) (j:Int) fr en K s P acc=(vB.f P (acc++(c.drop j).map fun x=>t+x)).bind fun q=>dA.l3 at_ q.1 m ml i fr en K s P:=by
 have hlim:eD=17179869184:=rfl;have lc:=hc.2.2;intro n
 induction n with
 | zero=>
  intro j hn hj acc ha;have e:j=c.length:=by omega
  subst e;rw[dA.l2a_eq,dn (show ¬(c.length:Int)<(c.length:Int) by omega),cond_false,jF2,List.map_nil,zE2]
 | succ n ih=>
  intro j hn hj acc ha;have hlt:j<c.length:=by omega
  have hx:=hc.2.1 _ (yG hlt);have ih':=ih (j+1) (by omega) (by omega) (acc++[t+c.getD j 0]) (by rw[nG];omega);rw[gF2,hF2]at ih';rw[dA.l2a_eq,nF2,iB 0 hlt];generalize c.getD j 0=x at hx ih' ⊢;simp(disch:=omega)only[ss,vE2,hlim];rw[ih',uE2];rfl
theorem wD2 {c:List Int} (hc:okT c 59) (at_ t:Int) (ht: -63000000000≤t∧t≤300000000000) (m:List Int) (ml i:Int) (s:List Int):
  dA.l2 at_ t m ml i c (c.length:Int) 0 fr en K s P=(vB.f P (minL t c)).bind fun q=>dA.l3 at_ q.1 m ml i fr en K s P:=by
 have hlim:eD=17179869184:=rfl;have lc:=hc.2.2;rw[dA.l2_eq];unfold minL
 cases c with
 | nil=>rfl
 | cons x c=>
  have hx:=hc.2.1 x (nE2 ..);have h:=lM1 (K:=K) (fr:=fr) (en:=en) (P:=P) hc at_ t ht m ml i s c.length 1 (by rw[iF2];omega) (by rw[iF2];omega) [t+x] (by simp);have hlen:((x::c).length:Int)>0:=by rw[iF2];omega
  have hw:w6 (t+x)=t+x:=wr (by omega) (by omega);rw[dp (show(0:Int)<((x::c).length:Int) by omega),cond_true,dp (show(0:Int)≤0 by omega),cond_true,cond_true,tn_0,List.getD_cons_zero,hw];rw[dp (show([]:List Int).length+[t+x].length≤eD by rw[hlim];simp),cond_true];exact h
theorem mM1 {c:List Int} (hc:okT c 59) (at_ t b:Int) (ht: -63000000000≤t∧t≤300000000000) (hb:0≤b∧b≤59) (h:List Int) (hl i:Int) (m:List Int) (ml j:Int) (s:List Int) (N:Nat) (hN:N≤3600):∀(n k:Nat),c.length-k=n→k≤c.length → ∀acc:List Int,acc.length≤N+k →
  mA.l3 at_ t b h hl i m ml j c (c.length:Int) (k:Int) fr en K s P acc=mA.l2 at_ t h hl i m ml (w6 (j+1)) fr en K s P (acc++(c.drop k).map fun x=>t+60*b+x):=by
 have hlim:eD=17179869184:=rfl;have lc:=hc.2.2;intro n
 induction n with
 | zero=>
  intro k hn hk acc ha;have e:k=c.length:=by omega
  subst e;rw[mA.l3_eq,dn (show ¬(c.length:Int)<(c.length:Int) by omega),cond_false,jF2,List.map_nil,zE2]
 | succ n ih=>
  intro k hn hk acc ha;have hlt:k<c.length:=by omega
  have hx:=hc.2.1 _ (yG hlt);have ih':=ih (k+1) (by omega) (by omega) (acc++[t+60*b+c.getD k 0]) (by rw[nG];omega);rw[gF2,hF2]at ih';rw[mA.l3_eq,nF2,iB 0 hlt];generalize c.getD k 0=x at hx ih' ⊢;simp(disch:=omega)only[ss,vE2,hlim];rw[ih',uE2];rfl
theorem qM1 {m c:List Int} (hP:P.2.2.2.2.2.1=c) (om:okT m 59) (hc:okT c 59) (at_ t:Int) (ht: -63000000000≤t∧t≤300000000000) (h:List Int) (hl i:Int) (s:List Int):∀(n j:Nat),m.length-j=n→j≤m.length → ∀acc:List Int,acc.length≤60*j →
  mA.l2 at_ t h hl i m (m.length:Int) (j:Int) fr en K s P acc=mA.l2 at_ t h hl i m (m.length:Int) (m.length:Int) fr en K s P (acc++(m.drop j).flatMap fun b=>minL (t+60*b) c):=by
 have lc:=hc.2.2;have lm:=om.2.2;intro n
 induction n with
 | zero=>
  intro j hn hj acc ha;have e:j=m.length:=by omega
  subst e;rw[jF2,List.flatMap_nil,zE2]
 | succ n ih=>
  intro j hn hj acc ha;have hlt:j<m.length:=by omega
  have hx:=om.2.1 _ (yG hlt);have hw:w6 ((j:Int)+1)=((j+1:Nat):Int):=bX1 (by omega);rw[mA.l2_eq,nF2,iB 0 hlt,mG2,hP];generalize m.getD j 0=b at hx ⊢;have h3:=mM1 (K:=K) (fr:=fr) (en:=en) (P:=P) hc at_ t b ht hx h hl i m (m.length:Int) (j:Int) s (60*j) (by omega) c.length 0 (by omega) (kE2 _) acc (by omega);rw[qE2,yE2,hw]at h3;have ih':=ih (j+1) (by omega) (by omega) (acc++minL (t+60*b) c) (by unfold minL;rw[jE2,gG2];omega);rw[dp (show(j:Int)<(m.length:Int) by omega),dp (show(0:Int)≤(j:Int) by omega),cond_true,cond_true,cond_true,h3];rw[uE2]at ih';exact ih'
end
section
variable {P : PlT} {r : Rl} {s0 : Int} {F : Int → Bool} {pr : Int → Int} {h m c : List Int} (hP : PlanOK P r s0 F pr h m c) {K fr en : Int} (hfr : -63000000000 ≤ fr ∧ fr ≤ 300000000000) (hen : -63000000000 ≤ en ∧ en ≤ 300000000000)
include hP
theorem gS1 (d a:Int) (hd: -719162≤d∧d≤2932896) (ha:a∈h) (hF:F d=true) (hf:r.1=6∨r.1=7):∀(n i:Nat),m.length-i=n→i≤m.length → ∀s:List Int,invA K s →
  ∃s' b,run (yA K) s (memC (fun x=>picP r.2.1 r.2.2.2.2.2.2.2.2.2.2.2.2.2.2.1 s0 F pr h m c x∧(x-(d*86400+3600*a))/60∈m.drop i) fr en (d*86400+3600*a) (d*86400+3600*a+3600))=(s',b)∧(b=true→invA K s') ∧
   dA.l1 (d*86400+3600*a) m (m.length:Int) (i:Int) fr en K s P=some (b,((fr,()),(en,()),(clA K s',()),()),()):=by
 have lm:=hP.om.2.2;have lc:=hP.oc.2.2;have ha0:=hP.oh.2.1 a ha;intro n
 induction n with
 | zero=>
  intro i hn hi s hs;have e:i=m.length:=by omega
  subst e;refine⟨s,true,by rw[jI _ fr en (fun x _ _ _ _ q=>by rw[jF2]at q;exact absurd q.2 (by simp))];rfl,fun _=>hs,?_⟩;rw[dA.l1_eq];simp(disch:=omega)only[ss]
 | succ n ih=>
  intro i hn hi s hs;have hlt:i<m.length:=by omega
  have ih':=ih (i+1) (by omega) (by omega);rw[gF2,hF2]at ih';have hbm:=yG hlt;have hb0:=hP.om.2.1 _ hbm;have hrd:Rise (m.drop i):=List.Pairwise.sublist (List.drop_sublist i m) hP.om.1;rw[iB 0 hlt]at hrd ⊢;have hgb:m.getD (i:Int).toNat 0=m.getD i 0:=by rw[nF2]
  rw[dA.l1_eq,hgb];generalize m.getD i 0=b at hbm hb0 hrd ⊢;have hsp:=eC1 (picP r.2.1 r.2.2.2.2.2.2.2.2.2.2.2.2.2.2.1 s0 F pr h m c) fr en (a:=b) (l:=m.drop (i+1)) (lo:=d*86400+3600*a) (hi:=d*86400+3600*a+3600) (a1:=d*86400+3600*a+60*b) (a2:=d*86400+3600*a+60*b+60)
   (fun x=>(x-(d*86400+3600*a))/60) hrd (fun x y q=>by omega) (fun x _=>by constructor <;> intro q <;> omega)
  have w1:w6 (d*86400+3600*a+w6 ((60:Int)*b))=d*86400+3600*a+60*b:=by rw[wr (x:=(60:Int)*b) (by omega) (by omega),wr (by omega) (by omega)]
  have w2:w6 ((i:Int)+1)=(i:Int)+1:=wr (by omega) (by omega);have htT:inT (d*86400+3600*a+60*b):=by unfold inT;omega
  have fin:∀L:List Int,L.length≤1000000→L.filter (inW fr en)=memC (picP r.2.1 r.2.2.2.2.2.2.2.2.2.2.2.2.2.2.1 s0 F pr h m c) fr en (d*86400+3600*a+60*b) (d*86400+3600*a+60*b+60) →
    ∃s' b',run (yA K) s (memC (fun x=>picP r.2.1 r.2.2.2.2.2.2.2.2.2.2.2.2.2.2.1 s0 F pr h m c x∧(x-(d*86400+3600*a))/60∈b::m.drop (i+1)) fr en (d*86400+3600*a) (d*86400+3600*a+3600))=(s',b')∧(b'=true→invA K s')∧dA.l3 (d*86400+3600*a) L m (m.length:Int) (i:Int) fr en K s P=some (b',((fr,()),(en,()),(clA K s',()),()),()):=by
   intro L hL he;obtain⟨s1,b1,g1,g2,g3⟩:=tM1 (K:=K) (fr:=fr) (en:=en) hL s hs;rw[he]at g1;rw[dA.l3_eq,g3];simp only[hE2]
   cases b1 with
   | false=>exact⟨s1,false,aM hsp g1,(fun q=>by cases q),rfl⟩
   | true=>
    obtain⟨s',b',h1,h2,h3⟩:=ih' s1 (g2 rfl);refine⟨s',b',sO hsp g1 h1,h2,?_⟩;rw[lE2,cond_false,w2];exact h3
  rw[dp (show(i:Int)<(m.length:Int) by omega),dp (show(0:Int)≤(i:Int) by omega),cond_true,cond_true,cond_true,w1,hP.er];by_cases c7:r.1=7
  ·obtain⟨L,k1,k2,k3⟩:=lR1 hP d a b hd ha hbm hF c7;rw[dp c7,cond_true,k3];simp only[hE2];exact fin L k1 (iV _ fr en k2.1 k2.2)
  ·have c6:r.1=6:=by omega
   obtain⟨k1,k2,k3⟩:=fT1 hP d a b hd ha hbm hF c6;rw[dn c7,cond_false,hJ1 hP _ htT];simp only[hE2];by_cases cin:inP r.2.1 s0 pr (d*86400+3600*a+60*b)
   ·rw[dp cin,cond_true,hP.ec,wD2 (K:=K) hP.oc _ _ (by omega) m _ _ s,jA1 hP (vU hP _) (xT1 hP _)];simp only[hE2];exact fin _ k1 (iV _ fr en k2 (k3 cin))
   ·have e:memC (picP r.2.1 r.2.2.2.2.2.2.2.2.2.2.2.2.2.2.1 s0 F pr h m c) fr en (d*86400+3600*a+60*b) (d*86400+3600*a+60*b+60)=[]:=jI _ fr en fun x _ _ q1 q2 q=>by have q5:=q.1.2.2.1;unfold inP at cin q5;rw[hP.p6 c6 x q.1.1,show x/60=(d*86400+3600*a+60*b)/60 by omega,←hP.p6 c6 _ htT]at q5;exact cin q5
    rw[e,dF2]at hsp;obtain⟨s1,b1,g1,g2,g3⟩:=tM1 (K:=K) (fr:=fr) (en:=en) (L:=[]) (kE2 _) s hs;have g1:(s,true)=(s1,b1):=g1;obtain⟨rfl,rfl⟩:=Prod.mk.inj g1;obtain⟨s',b',h1,h2,h3⟩:=ih' s hs;refine⟨s',b',by rw[←hsp];exact h1,h2,?_⟩;rw[dn cin,cond_false,dA.l3a_eq,g3];simp only[hE2];rw[lE2,cond_false,w2];exact h3
theorem xB2 (d a:Int) (hd: -719162≤d∧d≤2932896) (ha:a∈h) (hF:F d=true) (hf:r.1=6∨r.1=7) (s:List Int) (hs:invA K s):
  ∃s' b,run (yA K) s (memC (picP r.2.1 r.2.2.2.2.2.2.2.2.2.2.2.2.2.2.1 s0 F pr h m c) fr en (d*86400+3600*a) (d*86400+3600*a+3600))=(s',b)∧(b=true→invA K s') ∧
   dA.f P (d*86400+3600*a) ((fr,()),(en,()),(clA K s,()),())=some (b,((fr,()),(en,()),(clA K s',()),()),()):=by
 obtain⟨s',b,h1,h2,h3⟩:=gS1 hP (K:=K) (fr:=fr) (en:=en) d a hd ha hF hf m.length 0 (by omega) (kE2 _) s hs
 have e:memC (picP r.2.1 r.2.2.2.2.2.2.2.2.2.2.2.2.2.2.1 s0 F pr h m c) fr en (d*86400+3600*a) (d*86400+3600*a+3600)=memC (fun x=>picP r.2.1 r.2.2.2.2.2.2.2.2.2.2.2.2.2.2.1 s0 F pr h m c x∧(x-(d*86400+3600*a))/60∈m.drop 0) fr en (d*86400+3600*a) (d*86400+3600*a+3600):=aN _ fr en fun x _ _=>by
  rw[yE2];constructor
  ·rintro⟨q,q1,q2⟩;exact⟨⟨q,((eO hP d a x hd ha hF q1 q2).1 q.1).1⟩,q1,q2⟩
  ·rintro⟨⟨q,_⟩,q1⟩;exact⟨q,q1⟩
 refine⟨s',b,by rw[e];exact h1,h2,?_⟩;rw[qE2]at h3;rw[dA.f_eq,hP.em];exact h3
theorem fW1 (d:Int) (hd: -719162≤d∧d≤2932896) (hF:F d=true) (hf:4<r.1):∀(n i:Nat),h.length-i=n→i≤h.length → ∀s:List Int,invA K s →
  ∃s' b,run (yA K) s (memC (fun x=>picP r.2.1 r.2.2.2.2.2.2.2.2.2.2.2.2.2.2.1 s0 F pr h m c x∧(x-d*86400)/3600∈h.drop i) fr en (d*86400) (d*86400+86400))=(s',b)∧(b=true→invA K s') ∧
   mA.l1 (d*86400) h (h.length:Int) (i:Int) fr en K s P=some (b,((fr,()),(en,()),(clA K s',()),()),()):=by
 have lh:=hP.oh.2.2;have hfr7:=hP.fr;intro n
 induction n with
 | zero=>
  intro i hn hi s hs;have e:i=h.length:=by omega
  subst e;refine⟨s,true,by rw[jI _ fr en (fun x _ _ _ _ q=>by rw[jF2]at q;exact absurd q.2 (by simp))];rfl,fun _=>hs,?_⟩;rw[mA.l1_eq];simp(disch:=omega)only[ss]
 | succ n ih=>
  intro i hn hi s hs;have hlt:i<h.length:=by omega
  have ih':=ih (i+1) (by omega) (by omega);rw[gF2,hF2]at ih';have hbm:=yG hlt;have hb0:=hP.oh.2.1 _ hbm;have hrd:Rise (h.drop i):=List.Pairwise.sublist (List.drop_sublist i h) hP.oh.1;rw[iB 0 hlt]at hrd ⊢;have hgb:h.getD (i:Int).toNat 0=h.getD i 0:=by rw[nF2]
  rw[mA.l1_eq,hgb];generalize h.getD i 0=a at hbm hb0 hrd ⊢;have hsp:=eC1 (picP r.2.1 r.2.2.2.2.2.2.2.2.2.2.2.2.2.2.1 s0 F pr h m c) fr en (a:=a) (l:=h.drop (i+1)) (lo:=d*86400) (hi:=d*86400+86400) (a1:=d*86400+3600*a) (a2:=d*86400+3600*a+3600)
   (fun x=>(x-d*86400)/3600) hrd (fun x y q=>by omega) (fun x _=>by constructor <;> intro q <;> omega)
  have w1:w6 (d*86400+w6 ((3600:Int)*a))=d*86400+3600*a:=by rw[wr (x:=(3600:Int)*a) (by omega) (by omega),wr (by omega) (by omega)]
  have w2:w6 ((i:Int)+1)=(i:Int)+1:=wr (by omega) (by omega);have htT:inT (d*86400+3600*a):=by unfold inT;omega
  rw[dp (show(i:Int)<(h.length:Int) by omega),dp (show(0:Int)≤(i:Int) by omega),cond_true,cond_true,cond_true,w1,w2,hP.er];by_cases c5:r.1>5
  ·obtain⟨s1,b1,g1,g2,g3⟩:=xB2 hP (K:=K) (fr:=fr) (en:=en) d a hd hbm hF (by omega) s hs;rw[dp c5,cond_true,g3];simp only[hE2]
   cases b1 with
   | false=>exact⟨s1,false,aM hsp g1,(fun q=>by cases q),rfl⟩
   | true=>
    obtain⟨s',b',h1,h2,h3⟩:=ih' s1 (g2 rfl);refine⟨s',b',sO hsp g1 h1,h2,?_⟩;rw[lE2,cond_false];exact h3
  ·have c5':r.1=5:=by omega
   obtain⟨k1,k2,k3⟩:=lY1 hP d a hd hbm hF c5';rw[dn c5,cond_false,hJ1 hP _ htT];simp only[hE2];by_cases cin:inP r.2.1 s0 pr (d*86400+3600*a)
   ·obtain⟨s1,b1,g1,g2,g3⟩:=tM1 (K:=K) (fr:=fr) (en:=en) k1 s hs;rw[iV _ fr en k2 (k3 cin)]at g1;have hl2:=qM1 (K:=K) (fr:=fr) (en:=en) (P:=P) hP.ec hP.om hP.oc (d*86400) (d*86400+3600*a) (by omega) h (h.length:Int) (i:Int) s m.length 0 (by omega) (kE2 _) [] (kE2 _);rw[qE2,yE2,dF2]at hl2;have hpk:=jA1 hP (dO hP.om.1 hP.oc.1 hP.oc.2.1 (d*86400+3600*a)) (sG2 (oE1 hP _) (by decide));unfold rB1 at hpk g3 k1 k2 k3;rw[dp cin,lE2,cond_false,hP.em,hl2,mA.l2_eq,dn (show ¬(m.length:Int)<(m.length:Int) by omega),cond_false,hpk];simp only[hE2];rw[g3];simp only[hE2]
    cases b1 with
    | false=>exact⟨s1,false,aM hsp g1,(fun q=>by cases q),rfl⟩
    | true=>
     obtain⟨s',b',h1,h2,h3⟩:=ih' s1 (g2 rfl);refine⟨s',b',sO hsp g1 h1,h2,?_⟩;rw[lE2,cond_false,w2];exact h3
   ·have e:memC (picP r.2.1 r.2.2.2.2.2.2.2.2.2.2.2.2.2.2.1 s0 F pr h m c) fr en (d*86400+3600*a) (d*86400+3600*a+3600)=[]:=jI _ fr en fun x _ _ q1 q2 q=>by have q5:=q.1.2.2.1;unfold inP at cin q5;rw[hP.p5 c5' x q.1.1,show x/3600=(d*86400+3600*a)/3600 by omega,←hP.p5 c5' _ htT]at q5;exact cin q5
    rw[e,dF2]at hsp;obtain⟨s',b',h1,h2,h3⟩:=ih' s hs;refine⟨s',b',by rw[←hsp];exact h1,h2,?_⟩;rw[dn cin,eF2,cond_true];exact h3
theorem hrsA (d:Int) (hd: -719162≤d∧d≤2932896) (hF:F d=true) (hf:4<r.1) (s:List Int) (hs:invA K s):
  ∃s' b,run (yA K) s (memC (picP r.2.1 r.2.2.2.2.2.2.2.2.2.2.2.2.2.2.1 s0 F pr h m c) fr en (d*86400) ((d+1)*86400))=(s',b)∧(b=true→invA K s') ∧
   mA.f P (d*86400) ((fr,()),(en,()),(clA K s,()),())=some (b,((fr,()),(en,()),(clA K s',()),()),()):=by
 obtain⟨s',b,h1,h2,h3⟩:=fW1 hP (K:=K) (fr:=fr) (en:=en) d hd hF hf h.length 0 (by omega) (kE2 _) s hs
 have e:memC (picP r.2.1 r.2.2.2.2.2.2.2.2.2.2.2.2.2.2.1 s0 F pr h m c) fr en (d*86400) ((d+1)*86400)=memC (fun x=>picP r.2.1 r.2.2.2.2.2.2.2.2.2.2.2.2.2.2.1 s0 F pr h m c x∧(x-d*86400)/3600∈h.drop 0) fr en (d*86400) (d*86400+86400):=aN _ fr en fun x _ _=>by
  rw[yE2];constructor
  ·rintro⟨q,q1,q2⟩;have:=((nG1 hP.om.2.1 hP.oc.2.1 _).1 q.1.2.1).1;rw[show x%86400/3600=(x-d*86400)/3600 by omega]at this;exact⟨⟨q,this⟩,q1,by omega⟩
  ·rintro⟨⟨q,_⟩,q1,q2⟩;exact⟨q,q1,by omega⟩
 refine⟨s',b,by rw[e];exact h1,h2,?_⟩;rw[qE2]at h3;rw[mA.f_eq,hP.eh];exact h3
theorem hS1 (hf:4<r.1) (D:Int) (hD:D≤2932897):∀(n:Nat) (d:Int),(D+1-d).toNat=n → -800000≤d → ∀s:List Int,invA K s →
  ∃s' b,run (yA K) s (memC (picP r.2.1 r.2.2.2.2.2.2.2.2.2.2.2.2.2.2.1 s0 F pr h m c) fr en (d*86400) ((D+1)*86400))=(s',b)∧bB.l1 D d fr en K s P=some (((fr,()),(en,()),(clA K s',()),()),()):=by
 intro n
 induction n with
 | zero=>
  intro d hn hd s hs;refine⟨s,true,by rw[jI _ fr en (fun x _ _ h1 h2=>by omega)];rfl,?_⟩;rw[bB.l1_eq,dn (show ¬d≤D by omega),cond_false]
 | succ n ih=>
  intro d hn hd s hs;have hdD:d≤D:=by omega
  have hw:w6 (d+1)=d+1:=wr (by omega) (by omega);have hw2:w6 (d*86400)=d*86400:=wr (by omega) (by omega);have hsp:=oR (picP r.2.1 r.2.2.2.2.2.2.2.2.2.2.2.2.2.2.1 s0 F pr h m c) fr en (a:=d*86400) (b:=(d+1)*86400) (c:=(D+1)*86400) (by omega) (by omega);have ih':=ih (d+1) (by omega) (by omega);rw[bB.l1_eq,dp hdD,cond_true,cC.f_eq,hP.fits d];simp only[hE2]
  cases hF:F d with
  | false=>
   rw[jI _ fr en (fun x _ _ q1 q2 q=>by
    have q:=q.1.2.2.2;rw[show x/86400=d by omega,hF]at q
    cases q),dF2]at hsp
   obtain⟨s',b,h1,h2⟩:=ih' s hs;refine⟨s',b,by rw[←hsp];exact h1,?_⟩;rw[cond_false,bB.l2_eq,cond_false,hw];exact h2
  | true=>
   obtain⟨s1,b1,g1,g2,g3⟩:=hrsA hP (K:=K) (fr:=fr) (en:=en) d (hP.fin d hF) hF hf s hs;rw[cond_true,hw2,g3];simp only[hE2];rw[bB.l2_eq]
   cases b1 with
   | false=>exact⟨s1,false,aM hsp g1,rfl⟩
   | true=>
    obtain⟨s',b,h1,h2⟩:=ih' s1 (g2 rfl);refine⟨s',b,sO hsp g1 h1,?_⟩;rw[lE2,cond_false,hw];exact h2
include hfr hen
theorem pD2 (hf:4<r.1) (hen2:en≤253402300800) (s:List Int) (hs:invA K s):
  ∃s' b,run (yA K) s (memL (picP r.2.1 r.2.2.2.2.2.2.2.2.2.2.2.2.2.2.1 s0 F pr h m c) fr en)=(s',b)∧bB.f P fr en ((fr,()),(en,()),(clA K s,()),())=some (((fr,()),(en,()),(clA K s',()),()),()):=by
 have hd1:=(qF fr (by omega) (by omega)).1;have hd2:=(qF en (by omega) (by omega)).1;obtain⟨s',b,h1,h2⟩:=hS1 hP (K:=K) (fr:=fr) (en:=en) hf (en/86400) (by omega) _ (fr/86400) rfl (by omega) s hs;have e:memC (picP r.2.1 r.2.2.2.2.2.2.2.2.2.2.2.2.2.2.1 s0 F pr h m c) fr en fr en=memC (picP r.2.1 r.2.2.2.2.2.2.2.2.2.2.2.2.2.2.1 s0 F pr h m c) fr en (fr/86400*86400) ((en/86400+1)*86400):=aN _ fr en fun x q1 q2=>⟨fun q=>⟨q.1,by omega,by omega⟩,fun q=>⟨q.1,q1,q2⟩⟩
 rw[←pE1,e];refine⟨s',b,h1,?_⟩;rw[bB.f_eq,hd1,hd2];exact h2
omit hfr hen
theorem fE2 (hu:r.2.2.2.2.2.1=true→inT r.2.2.2.1) (f0 e0:Int) (hf0: -63000000000≤f0∧f0≤300000000000) (he0: -63000000000≤e0∧e0≤253402300799) (s:List Int) (hs:invA K s):
  jC.f P f0 e0 (clA K s)=some (clA K (run (yA K) s (memL (belP r.2.1 r.2.2.2.1 r.2.2.2.2.2.1 r.2.2.2.2.2.2.2.2.2.2.2.2.2.2.1 s0 F pr h m c) f0 e0)).1,()):=by
 have hS:=hP.inS;unfold inT at hS;have hgo:∀fr en:Int,s0≤fr → -63000000000≤fr∧fr≤300000000000 → -63000000000≤en∧en≤253402300800→memL (picP r.2.1 r.2.2.2.2.2.2.2.2.2.2.2.2.2.2.1 s0 F pr h m c) fr en=memL (belP r.2.1 r.2.2.2.1 r.2.2.2.2.2.1 r.2.2.2.2.2.2.2.2.2.2.2.2.2.2.1 s0 F pr h m c) f0 e0 →
   jC.l1 K s P fr en=some (clA K (run (yA K) s (memL (belP r.2.1 r.2.2.2.1 r.2.2.2.2.2.1 r.2.2.2.2.2.2.2.2.2.2.2.2.2.2.1 s0 F pr h m c) f0 e0)).1,()):=by
  intro fr en h1 h2 h3 e;rw[jC.l1_eq,hP.er];by_cases c5:r.1<5
  ·obtain⟨s',b,g1,g2⟩:=jC2 hP (K:=K) h2 (by omega) (by omega) h1 h3.2 s hs;rw[dp c5,cond_true,g2];simp only[hE2];rw[←e,g1]
  ·obtain⟨s',b,g1,g2⟩:=pD2 hP (K:=K) h2 (by omega) (by omega) h3.2 s hs;rw[dn c5,cond_false,g2];simp only[hE2];rw[←e,g1]
 rw[jC.f_eq,hP.er,hP.es,tY]
 cases hen:r.2.2.2.2.2.1 with
 | false=>
  rw[hen]at hgo;rw[cond_false];refine hgo _ _ (by omega) (by omega) (by omega) (pN _ (pG _ _ _) fun x=>?_);rw[kG,iP1];constructor
  ·rintro⟨q,q1,q2⟩;exact⟨⟨q,by omega,(fun z=>by cases z)⟩,by omega,q2⟩
  ·rintro⟨⟨q,q1,_⟩,q2,q3⟩;exact⟨q,by omega,q3⟩
 | true=>
  have hu:=hu hen;unfold inT at hu;rw[hen]at hgo;rw[cond_true,wr (x:=r.2.2.2.1+1) (by omega) (by omega),zB1];refine hgo _ _ (by omega) (by omega) (by omega) (pN _ (pG _ _ _) fun x=>?_);rw[kG,iP1];constructor
  ·rintro⟨q,q1,q2⟩;exact⟨⟨q,by omega,fun _=>by omega⟩,by omega,by omega⟩
  ·rintro⟨⟨q,q1,q4⟩,q2,q3⟩;have:=q4 rfl;exact⟨q,by omega,by omega⟩
end
section
variable {P : PlT} {r : Rl} {s0 : Int} {F : Int → Bool} {pr : Int → Int} {h m c : List Int} (hP : PlanOK P r s0 F pr h m c) {K fr en : Int} (hfr : -63000000000 ≤ fr ∧ fr ≤ 300000000000) (hen : -63000000000 ≤ en ∧ en ≤ 300000000000)
include hP
include hfr hen
end
section
variable {P : PlT} {r : Rl} {s0 : Int} {F : Int → Bool} {pr : Int → Int} {h m c : List Int} (hP : PlanOK P r s0 F pr h m c) {K fr en : Int} (hfr : -63000000000 ≤ fr ∧ fr ≤ 300000000000) (hen : -63000000000 ≤ en ∧ en ≤ 300000000000)
include hP
include hfr hen
omit hfr hen
end
noncomputable def belR (r:Rl) (s:Int):Int→Prop:=
 belP r.2.1 r.2.2.2.1 r.2.2.2.2.2.1 r.2.2.2.2.2.2.2.2.2.2.2.2.2.2.1 s (tP r.1 r.2.2.2.2.1 r.2.2.2.2.2.2.1 r.2.2.2.2.2.2.2.1 r.2.2.2.2.2.2.2.2.1 r.2.2.2.2.2.2.2.2.2.1 r.2.2.2.2.2.2.2.2.2.2.1 s) (per r.1 r.2.2.2.2.1 r.2.2.2.2.2.2.2.1) (tX r.1 r.2.2.2.2.2.2.2.2.2.2.2.1 s) (oJ1 r.1 r.2.2.2.2.2.2.2.2.2.2.2.2.1 s) (qJ1 r.1 r.2.2.2.2.2.2.2.2.2.2.2.2.2.1 s)
noncomputable def memR (r:Rl) (s e:Int):List Int:=memL (belR r s) s e
noncomputable def LS (r:Rl) (s e:Int):List Int:=if r.2.2.1>0 then(memR r s e).take r.2.2.1.toNat else memR r s e
def okE (s e:Int):Prop:=inT s∧inT e∧(s<e→e-s≤316224000)
theorem sC1 (r:Rl) (hr:fI r) (hm:tA.f r=some (true,())) (s:Int) (hs:inT s):∃P:PlT,sE.f r s=some (P,true,()) ∧
  PlanOK P r s (tP r.1 r.2.2.2.2.1 r.2.2.2.2.2.2.1 r.2.2.2.2.2.2.2.1 r.2.2.2.2.2.2.2.2.1 r.2.2.2.2.2.2.2.2.2.1 r.2.2.2.2.2.2.2.2.2.2.1 s) (per r.1 r.2.2.2.2.1 r.2.2.2.2.2.2.2.1) (tX r.1 r.2.2.2.2.2.2.2.2.2.2.2.1 s) (oJ1 r.1 r.2.2.2.2.2.2.2.2.2.2.2.2.1 s) (qJ1 r.1 r.2.2.2.2.2.2.2.2.2.2.2.2.2.1 s):=by
 obtain⟨f,iv,ct,un,wkst,en,mo,we,yd,md,dy,ho,mi,se,po,⟨⟩⟩:=r;exact oY1 f iv ct un wkst en mo we yd md dy ho mi se po s hr hm hs
theorem hM1 {r:Rl} {s e:Int} {P:PlT} (hMk:sE.f r s=some (P,true,())) (h:okE s e):iD.f r s e=some (P,true,()):=by
 obtain⟨h1,h2,h3⟩:=h;rw[iD.f_eq,hMk,(oH e).1];unfold inT at h1 h2;by_cases c:e>s
 ·simp(disch:=omega)only[ss,iD.l1_eq]
 ·simp(disch:=omega)only[ss,iD.l1_eq]
theorem tP1 {r:Rl} {s e:Int} {P:PlT} {b:Bool} (hMk:sE.f r s=some (P,b,())) (hb:b=true→inT s) (h:¬(b=true∧okE s e)):∃Q,iD.f r s e=some (Q,false,()):=by
 rw[iD.f_eq,hMk,(oH e).1];simp only[hE2]
 cases b with
 | false=>exact⟨_,by rw[eF2,cond_true,iD.l1_eq,cond_true]⟩
 | true=>
  have h1:=hb rfl;rw[lE2,cond_false];by_cases c2:inT e
  ·unfold inT at h1 c2;have c3:s<e∧e-s>316224000:=by
    refine Classical.byContradiction fun q=>h ⟨rfl,h1,c2,fun z=>?_⟩
    omega
   rw[dp c2,lE2,cond_false,dp (show e>s from c3.1),cond_true,wr (by omega) (by omega),dp c3.2,iD.l1_eq,cond_true];exact⟨_,rfl⟩
  ·unfold inT at c2;rw[dn c2,eF2,cond_true,iD.l1_eq,cond_true];exact⟨_,rfl⟩
theorem uG1 {r:Rl} (hr:fI r) (hm:tA.f r=some (true,())):(0≤r.2.2.1∧r.2.2.1≤4096)∧(r.2.2.2.2.2.1=true→inT r.2.2.2.1)∧(1≤r.2.1∧r.2.1≤1000)∧(1≤r.1∧r.1≤7):=by have hp:=(tY1 hr hm).1;unfold numP at hp;exact⟨⟨hp.1.2.2.2.2.1,hp.1.2.2.2.2.2.1⟩,fun q=>(hp.2.1 q).1,⟨hp.1.2.2.1,hp.1.2.2.2.1⟩,⟨hp.1.1,hp.1.2.1⟩⟩
section
variable {r : Rl} {s e : Int} (hr : fI r) (hm : tA.f r = some (true, ())) (ho : okE s e)
include hr hm ho
theorem gP1 {P:PlT} (hMk:sE.f r s=some (P,true,())) (M:Int) (h1:1≤M) (h2:M≤100000):yD.f P r s e M=some ((memR r s e).take (if r.2.2.1>0 then min M r.2.2.1 else M).toNat,()):=by
 obtain⟨P',hMk',hP⟩:=sC1 r hr hm s ho.1;have e1:P'=P:=by rw[hMk]at hMk';exact(congrArg Prod.fst (oF2 hMk')).symm
 subst e1;have hn:=uG1 hr hm;obtain⟨g1,g2,g3⟩:=ho;unfold inT at g1 g2;have key:∀K:Int,1≤K→K≤100000→yD.l1 s e P' K []=some ((memR r s e).take K.toNat,()):=by intro K k1 k2;have hw:=fE2 hP (K:=K) hn.2.1 s e (by omega) (by omega) [] (by unfold invA;simp;omega);have hrun:=gB2 K.toNat (memR r s e) [] (by simp;omega);rw[show((K.toNat:Nat):Int)=K by omega]at hrun;rw[yD.l1_eq];show((jC.f P' s e (clA K [])).bind fun t1=>some (t1.1.1.1,()))=_;rw[hw];simp only[hE2];show some ((run (yesF K) [] (memR r s e)).1,())=_;rw[hrun];rfl
 rw[yD.f_eq];by_cases c:r.2.2.1>0
 ·rw[dp c,cond_true,if_pos c,zB1];exact key _ (by omega) (by omega)
 ·rw[dn c,cond_false,if_neg c];exact key _ h1 h2
theorem fN1 (most:Int) (h1:1≤most) (h2:most≤4096):iF.f r s e most=some (if((LS r s e).length:Int)>most then([],10,())else(LS r s e,0,())):=by
 obtain⟨P,hMk,hP⟩:=sC1 r hr hm s ho.1;have hn:=uG1 hr hm;have hF:=gP1 hr hm ho hMk (most+1) (by omega) (by omega);have hw:w6 (most+1)=most+1:=wr (by omega) (by omega);rw[iF.f_eq,hM1 hMk ho];simp only[hE2];rw[lE2,cond_false,dn (show ¬most<1 by omega),cond_false,dn (show ¬most>4096 by omega),cond_false,hw,hF];simp only[hE2];unfold LS;generalize memR r s e=M;by_cases c:r.2.2.1>0
 ·rw[if_pos c,if_pos c];by_cases c2:((M.take r.2.2.1.toNat).length:Int)>most
  ·rw[if_pos c2,dp,cond_true];rw[fF2]at c2 ⊢;omega
  ·have e2:M.take (min (most+1) r.2.2.1).toNat=M.take r.2.2.1.toNat:=by
    rw[fF2]at c2;by_cases c3:r.2.2.1≤most
    ·rw[show min (most+1) r.2.2.1=r.2.2.1 by omega]
    ·rw[cF2 (by omega),cF2 (by omega)]
   rw[if_neg c2,e2,dn c2,cond_false]
 ·rw[if_neg c,if_neg c];by_cases c2:(M.length:Int)>most
  ·rw[if_pos c2,dp,cond_true];rw[fF2];omega
  ·rw[if_neg c2,cF2 (by omega),dn c2,cond_false]
end
theorem uV1 {r:Rl} {s e:Int} {bm:Bool} (hr:fI r) (hm:tA.f r=some (bm,())) (h:¬(bm=true∧okE s e)):(∀most,iF.f r s e most=some ([],1,())) ∧ True:=by
 have hQ:∃Q,iD.f r s e=some (Q,false,()):=by
  by_cases c:bm=true∧inT s
  ·obtain⟨rfl,hs⟩:=c;obtain⟨P,hMk,hP⟩:=sC1 r hr hm s hs;exact tP1 hMk (fun _=>hs) h
  ·obtain⟨P,hMk⟩:=nY1 r s bm hm c;exact tP1 hMk (fun q=>by cases q) (fun q=>by cases q.1)
 obtain⟨Q,hQ⟩:=hQ;constructor
 ·intro most;rw[iF.f_eq,hQ];rfl
 ·trivial
theorem eJ1 (r:Rl) (hr:fI r) (s e most:Int) (h1:1≤most) (h2:most≤4096):∃L cd,iF.f r s e most=some (L,cd,())∧(¬cd=0→L=[]) ∧
  (cd=0→tA.f r=some (true,())∧okE s e∧L=LS r s e∧(L.length:Int)≤most)∧(tA.f r=some (true,())→okE s e→((LS r s e).length:Int)≤most→cd=0):=by
 obtain⟨bm,hm⟩:=pO r hr;by_cases c:bm=true∧okE s e
 ·obtain⟨rfl,ho⟩:=c;have hl:=fN1 hr hm ho most h1 h2;by_cases c2:((LS r s e).length:Int)>most
  ·rw[if_pos c2]at hl;exact⟨[],10,hl,fun _=>rfl,fun q=>by omega,fun _ _ q=>by omega⟩
  ·rw[if_neg c2]at hl;exact⟨_,0,hl,fun q=>absurd rfl q,fun _=>⟨hm,ho,rfl,by omega⟩,fun _ _ _=>rfl⟩
 ·have hl:=(uV1 hr hm c).1 most;refine⟨[],1,hl,fun _=>rfl,fun q=>by omega,fun q q1=>?_⟩;rw[hm]at q;exact absurd ⟨congrArg Prod.fst (oF2 q),q1⟩ c
theorem cJ1 {r:Rl} {s e t:Int}:t∈memR r s e↔belR r s t∧t<e:=by unfold memR;rw[kG];exact⟨fun q=>⟨q.1,q.2.2⟩,fun q=>⟨q.1,q.1.2.1,q.2⟩⟩
theorem iU (r:Rl) (s e:Int):Rise (memR r s e):=pG _ _ _
theorem sW1 (r:Rl) (s e:Int):Rise (LS r s e):=by
 unfold LS;split
 ·exact wV (iU r s e) _
 ·exact iU r s e
theorem dW1 {r:Rl} {s e t:Int} (h:t∈LS r s e):belR r s t∧s≤t∧t<e:=by
 have h:t∈memR r s e:=by
  unfold LS at h;split at h
  ·exact List.mem_of_mem_take h
  ·exact h
 have:=cJ1.1 h;exact⟨this.1,this.1.2.1,this.2⟩
theorem sY1 (a:List Int) (hl:a.length≤1000000):∀(k i:Nat),a.length-i=k→dC.l1 a a i=some (true,()):=by
 intro k
 induction k with
 | zero=>
  intro i hk;rw[dC.l1_eq];simp(disch:=omega)only[ss]
 | succ k ih=>
  intro i hk;have h:=ih (i+1) (by omega);rw[gF2,hF2]at h;rw[dC.l1_eq];simp(disch:=omega)only[ss];exact h
theorem rH (a:List Int) (hl:a.length≤1000000):dC.f a a=some (true,()):=by have h:=sY1 a hl a.length 0 (by omega);rw[qE2]at h;rw[dC.f_eq];simp(disch:=omega)only[ss];exact h
def zR :Rl:=(0,0,0,0,0,false,[],[],[],[],[],[],[],[],[],())
theorem eqI2 (a b:List Int) (ha:a.length≤1000000):dB.f a b=some (decide (a=b),()):=by
 rw[dB.f_eq];by_cases hl:a.length=b.length
 ·have key:∀(k i:Nat),a.length-i=k→i≤a.length→dB.l1 a b a.length i=some (decide (a.drop i=b.drop i),()):=by
   intro k
   induction k with
   | zero=>
    intro i hk hia;have e1:a.drop i=[]:=cG2 (by omega);have e2:b.drop i=[]:=cG2 (by omega);rw[dB.l1_eq,e1,e2];simp(disch:=omega)only[ss]
   | succ k ih=>
    intro i hk hia;have h1:i<a.length:=by omega
    have h2:i<b.length:=by omega
    have:=ih (i+1) (by omega) (by omega);rw[dB.l1_eq,iB 0 h1,iB 0 h2];by_cases c:a.getD i 0=b.getD i 0
    ·have e:decide (a.getD i 0::a.drop (i+1)=b.getD i 0::b.drop (i+1))=decide (a.drop (i+1)=b.drop (i+1)):=decide_eq_decide.2 ⟨fun h=>(lH2 h).2,fun h=>by rw[c,h]⟩;rw[e];simp(disch:=omega)only[ss];exact this
    ·have e:decide (a.getD i 0::a.drop (i+1)=b.getD i 0::b.drop (i+1))=false:=dn fun h=>c (lH2 h).1
     rw[e];simp(disch:=omega)only[ss]
  have:=key _ 0 rfl (kE2 _);rw[qE2,yE2,yE2]at this;simp(disch:=omega)only[ss,this]
 ·rw[dn (show ¬a=b from fun h=>hl (by rw[h]))];simp(disch:=omega)only[ss]
theorem eqD2 (a b:List Dy) (ha:a.length≤1000000):gB.f a b=some (decide (a=b),()):=by
 rw[gB.f_eq];by_cases hl:a.length=b.length
 ·have key:∀(k i:Nat),a.length-i=k→i≤a.length→gB.l1 a b a.length i=some (decide (a.drop i=b.drop i),()):=by
   intro k
   induction k with
   | zero=>
    intro i hk hia;have e1:a.drop i=[]:=cG2 (by omega);have e2:b.drop i=[]:=cG2 (by omega);rw[gB.l1_eq,e1,e2];simp(disch:=omega)only[ss]
   | succ k ih=>
    intro i hk hia;have h1:i<a.length:=by omega
    have h2:i<b.length:=by omega
    have:=ih (i+1) (by omega) (by omega);rw[gB.l1_eq,iB ((0,0,()):Dy) h1,iB ((0,0,()):Dy) h2];generalize hx:a.getD i ((0,0,()):Dy)=x;generalize hy:b.getD i ((0,0,()):Dy)=y;have hx':a.getD i ((0,0,()):Int×Int×Unit)=x:=hx;have hy':b.getD i ((0,0,()):Int×Int×Unit)=y:=hy;obtain⟨x1,x2,⟨⟩⟩:=x;obtain⟨y1,y2,⟨⟩⟩:=y;by_cases c:x1=y1∧x2=y2
    ·obtain⟨rfl,rfl⟩:=c;have e:decide ((x1,x2,())::a.drop (i+1)=(x1,x2,())::b.drop (i+1))=decide (a.drop (i+1)=b.drop (i+1)):=decide_eq_decide.2 ⟨fun h=>(lH2 h).2,fun h=>by rw[h]⟩;rw[e];simp(disch:=omega)only[ss,hx',hy'];exact this
    ·have e:decide ((x1,x2,())::a.drop (i+1)=(y1,y2,())::b.drop (i+1))=false:=dn fun h=>c (by have:=(lH2 h).1;cases this;exact⟨rfl,rfl⟩)
     rw[e];have e2:(decide (x1=y1)&&decide (x2=y2))=false:=by
      by_cases c1:x1=y1
      ·rw[dn (show ¬x2=y2 from fun h=>c ⟨c1,h⟩),Bool.and_false]
      ·rw[dn c1,Bool.false_and]
     simp(disch:=omega)only[ss,hx',hy',e2]
  have:=key _ 0 rfl (kE2 _);rw[qE2,yE2,yE2]at this;simp(disch:=omega)only[ss,this]
 ·rw[dn (show ¬a=b from fun h=>hl (by rw[h]))];simp(disch:=omega)only[ss]
theorem bL1 (r q:Rl) (hr:fI r):oC (bE.f r q) (r=q):=by
 unfold fI eN at hr;obtain⟨f,iv,ct,un,wk,en,mo,we,yd,md,dy,ho,mi,se,po,⟨⟩⟩:=r;obtain⟨f',iv',ct',un',wk',en',mo',we',yd',md',dy',ho',mi',se',po',⟨⟩⟩:=q;dsimp only at hr;obtain⟨h1,h2,h3,h4,h5,h6,h7,h8,h9⟩:=hr;have no:∀{p:Prop},¬p→oC (some (false,())) p:=fun h=>⟨false,rfl,by simp[h]⟩
 rw[bE.f_eq];dsimp only;by_cases c:f=f'
 ·by_cases c1:iv=iv'
  ·by_cases c2:ct=ct'
   ·by_cases c3:un=un'
    ·by_cases c4:wk=wk'
     ·by_cases c5:en=en'
      ·subst c c1 c2 c3 c4 c5;simp(disch:=omega)only[ss,beq_self_eq_true];rw[bE.l1_eq,cond_false];dsimp only;rw[eqI2 mo mo' (by omega),eqI2 we we' (by omega),eqI2 yd yd' (by omega),eqI2 md md' (by omega),eqD2 dy dy' (by omega),eqI2 ho ho' (by omega),eqI2 mi mi' (by omega),eqI2 se se' (by omega),eqI2 po po' (by omega)];simp only[hE2];by_cases d1:mo=mo'
       ·by_cases d2:we=we'
        ·by_cases d3:yd=yd'
         ·by_cases d4:md=md'
          ·by_cases d5:dy=dy'
           ·by_cases d6:ho=ho'
            ·by_cases d7:mi=mi'
             ·by_cases d8:se=se'
              ·subst d1 d2 d3 d4 d5 d6 d7 d8;simp only[decide_true,cond_true];refine⟨_,rfl,?_⟩;rw[decide_eq_true_iff];exact⟨fun h=>by rw[h],fun h=>by cases h;rfl⟩
              ·simp only[dp d1,dp d2,dp d3,dp d4,dp d5,dp d6,dp d7,dn d8,cond_true,cond_false];exact no fun h=>d8 (by cases h;rfl)
             ·simp only[dp d1,dp d2,dp d3,dp d4,dp d5,dp d6,dn d7,cond_true,cond_false];exact no fun h=>d7 (by cases h;rfl)
            ·simp only[dp d1,dp d2,dp d3,dp d4,dp d5,dn d6,cond_true,cond_false];exact no fun h=>d6 (by cases h;rfl)
           ·simp only[dp d1,dp d2,dp d3,dp d4,dn d5,cond_true,cond_false];exact no fun h=>d5 (by cases h;rfl)
          ·simp only[dp d1,dp d2,dp d3,dn d4,cond_true,cond_false];exact no fun h=>d4 (by cases h;rfl)
         ·simp only[dp d1,dp d2,dn d3,cond_true,cond_false];exact no fun h=>d3 (by cases h;rfl)
        ·simp only[dp d1,dn d2,cond_true,cond_false];exact no fun h=>d2 (by cases h;rfl)
       ·simp only[dn d1,cond_false];exact no fun h=>d1 (by cases h;rfl)
      ·have e:(en==en')=false:=by cases en <;> cases en' <;> first | rfl | exact absurd rfl c5
       simp(disch:=omega)only[ss,e,bE.l1_eq];exact no fun h=>c5 (by cases h;rfl)
     ·simp(disch:=omega)only[ss,bE.l1_eq];exact no fun h=>c4 (by cases h;rfl)
    ·simp(disch:=omega)only[ss,bE.l1_eq];exact no fun h=>c3 (by cases h;rfl)
   ·simp(disch:=omega)only[ss,bE.l1_eq];exact no fun h=>c2 (by cases h;rfl)
  ·simp(disch:=omega)only[ss,bE.l1_eq];exact no fun h=>c1 (by cases h;rfl)
 ·simp(disch:=omega)only[ss,bE.l1_eq];exact no fun h=>c (by cases h;rfl)
abbrev Mt :Type:=Int×Int×Int×Bool×Rl×List Int×List Int×Unit
def innP (t:Int):Prop:= -62104060800≤t∧t<253370764800
theorem uT (y:Int) (h:1≤y∧y≤9999):kH.f y=some (fst_ y*86400,()):=by rw[kH.f_eq,gZ,if_pos h];rfl
theorem rC2 :kH.f 2=some (-62104060800,()):=uT 2 (by omega)
theorem wC2 :kH.f 9999=some (253370764800,()):=uT 9999 (by omega)
theorem hB2 :kH.f 3=some (-62072524800,()):=uT 3 (by omega)
theorem iA2 :kH.f 9998=some (253339228800,()):=uT 9998 (by omega)
theorem sX (t:Int):oC (sK.f t) (innP t):=by
 unfold innP;rw[sK.f_eq,rC2,wC2];by_cases c:t ≥ -62104060800
 ·simp(disch:=omega)only[ss];exact⟨_,rfl,by rw[decide_eq_true_eq];omega⟩
 ·simp(disch:=omega)only[ss];exact⟨_,rfl,by simp;omega⟩
def okM (l:List Int) (j:Nat):Prop:=innP (l.getD j 0)∧adjI l j
def uO (l:List Int):Prop:=(∀j,j<l.length→okM l j)∧l.length≤64
theorem vR1 (l:List Int) (hl:l.length≤1000000):∀(k i:Nat),l.length-i=k→i≤l.length →
  oC (fC.l1 l l (l.length:Int) (i:Int)) ((∀j,i≤j→j<l.length→okM l j)∧l.length≤64):=by
 intro k
 induction k with
 | zero=>
  intro i hk hil;rw[fC.l1_eq];simp(disch:=omega)only[ss];refine⟨_,rfl,?_⟩;rw[decide_eq_true_eq];exact⟨fun h=>⟨fun j h1 h2=>by omega,by omega⟩,fun h=>by omega⟩
 | succ k ih=>
  intro i hk hil;have hlt:i<l.length:=by omega
  have step:okM l i→oC (fC.l2 l l (l.length:Int) (i:Int) false) ((∀j,i≤j→j<l.length→okM l j)∧l.length≤64):=fun h=>by
   rw[fC.l2_eq];simp(disch:=omega)only[ss];refine(ih (i+1) (by omega) (by omega)).iff ⟨fun q=>⟨fun j h1 h2=>?_,q.2⟩,fun q=>⟨fun j h1 h2=>q.1 j (by omega) h2,q.2⟩⟩;by_cases e:j=i
   ·subst e;exact h
   ·exact q.1 j (by omega) h2
  have stop:¬okM l i→oC (fC.l2 l l (l.length:Int) (i:Int) true) ((∀j,i≤j→j<l.length→okM l j)∧l.length≤64):=fun h=>by rw[fC.l2_eq,cond_true];exact⟨false,rfl,by simp;intro q;exact absurd (q i (rE2 _) hlt) h⟩
  obtain⟨b,hb,hi⟩:=sX (l.getD i 0);rw[fC.l1_eq];simp(disch:=omega)only[ss,hb]
  cases b with
  | false=> 
   rw[eF2,cond_true];exact stop fun q=>by have:=hi.2 q.1;cases this
  | true=>
   have hin:=hi.1 rfl;rw[lE2,cond_false];by_cases h0:i=0
   ·simp(disch:=omega)only[ss];exact step ⟨hin,fun q=>by omega⟩
   ·simp(disch:=omega)only[ss];by_cases c:l.getD i 0≤l.getD (i-1) 0
    ·rw[dp c];exact stop fun q=>by have:=q.2 (by omega);omega
    ·rw[dn c];exact step ⟨hin,fun _=>by omega⟩
theorem uY (l:List Int) (hl:l.length≤1000000):oC (fC.f l) (uO l):=by have:=vR1 l hl _ 0 rfl (kE2 _);rw[qE2]at this;rw[fC.f_eq];exact this.iff ⟨fun q=>⟨fun j hj=>q.1 j (kE2 _) hj,q.2⟩,fun q=>⟨fun j _ hj=>q.1 j hj,q.2⟩⟩
def mayM (m:Mt):Prop:=0≤m.1∧m.1<16∧innP m.2.1∧1≤m.2.2.1∧m.2.2.1≤2678400∧uO m.2.2.2.2.2.1∧uO m.2.2.2.2.2.2.1 ∧
 (m.2.2.2.1=true→tA.f m.2.2.2.2.1=some (true,()))∧(m.2.2.2.1=false→m.2.2.2.2.1=zR)
def mP (m:Mt):Prop:=fI m.2.2.2.2.1∧m.2.2.2.2.2.1.length≤1000000∧m.2.2.2.2.2.2.1.length≤1000000
theorem cC2 (m:Mt):∃b,oG.f m=some (b,())∧(b=true→mP m):=by
 obtain⟨b,h1,h2⟩:=uS1 m.2.2.2.2.1;rw[oG.f_eq,h1]
 cases b with
 | false=>exact⟨false,rfl,fun h=>by cases h⟩
 | true=>
  simp(disch:=omega)only[ss];by_cases c:(m.2.2.2.2.2.1.length:Int)≤400
  ·rw[dp c];refine⟨_,rfl,fun h=>⟨h2 rfl,by omega,?_⟩⟩;rw[decide_eq_true_eq]at h;omega
  ·rw[dn c];exact⟨_,rfl,fun h=>by cases h⟩
theorem qX1 (m:Mt) (h:mP m):oC (mE.f m) (mayM m):=by
 obtain⟨z,st,du,rc,r,da,ex,⟨⟩⟩:=m;obtain⟨h1,h2,h3⟩:=h;dsimp only at h1 h2 h3
 have stop:¬mayM (z,st,du,rc,r,da,ex,())→oC (mE.l1 true (z,st,du,rc,r,da,ex,())) (mayM (z,st,du,rc,r,da,ex,())):=fun q=>by rw[mE.l1_eq,cond_true];exact⟨false,rfl,by simp[q]⟩
 obtain⟨b1,g1,k1⟩:=sX st;obtain⟨b2,g2,k2⟩:=uY da h2;obtain⟨b3,g3,k3⟩:=uY ex h3;unfold mayM at stop ⊢;dsimp only at stop ⊢;rw[mE.f_eq];dsimp only;by_cases c1:z<0
 ·rw[dp c1];exact stop fun q=>by omega
 rw[dn c1,cond_false];by_cases c2:z≥16
 ·rw[dp c2];exact stop fun q=>by omega
 rw[dn c2,cond_false,g1]
 cases b1 with
 | false=>exact stop fun q=>by have:=k1.2 q.2.2.1;cases this
 | true=>
 simp(disch:=omega)only[ss];by_cases c3:du<1
 ·rw[dp c3];exact stop fun q=>by omega
 rw[dn c3,cond_false];by_cases c4:du>2678400
 ·rw[dp c4];exact stop fun q=>by omega
 rw[dn c4,cond_false,g2]
 cases b2 with
 | false=>exact stop fun q=>by have:=k2.2 q.2.2.2.2.2.1;cases this
 | true=>
 simp(disch:=omega)only[ss,g3]
 cases b3 with
 | false=>exact stop fun q=>by have:=k3.2 q.2.2.2.2.2.2.1;cases this
 | true=>
 rw[lE2,mE.l1_eq,cond_false];dsimp only;have base:0≤z∧z<16∧innP st∧1≤du∧du≤2678400∧uO da∧uO ex:=⟨by omega,by omega,k1.1 rfl,by omega,by omega,k2.1 rfl,k3.1 rfl⟩
 obtain⟨i1,i2,i3,i4,i5,i6,i7⟩:=base
 cases rc with
 | true=>
  obtain⟨b,hb⟩:=pO r h1;rw[cond_true,hb];refine⟨b,rfl,fun e=>⟨i1,i2,i3,i4,i5,i6,i7,(fun _=>by rw[←e]),(fun e=>by cases e)⟩,fun q=>?_⟩;have:=q.2.2.2.2.2.2.2.1 rfl;exact congrArg Prod.fst (oF2 this)
 | false=>
  obtain⟨b,hb,hq⟩:=bL1 r zR h1;have hb:bE.f r (0,0,0,0,0,false,[],[],[],[],[],[],[],[],[],())=some (b,()):=hb;rw[cond_false,hb];exact⟨b,rfl,fun e=>⟨i1,i2,i3,i4,i5,i6,i7,(fun e=>by cases e),fun _=>hq.1 e⟩,fun q=>hq.2 (q.2.2.2.2.2.2.2.2 rfl)⟩
theorem lL {l:List Int} (h:uO l):l.length≤64∧(∀j,j<l.length→adjI l j) ∧ ∀t∈l,innP t:=by refine⟨h.2,fun j hj=>(h.1 j hj).2,fun t ht=>?_⟩;obtain⟨j,hj,rfl⟩:=oG2 ht;have:=(h.1 j hj).1;rwa[oE2,sE2 hj]at this
set_option maxRecDepth 1000000
abbrev r0 :Int×Int×Int×Int×Int×Bool×List Int×List Int×List Int×List Int×List (Int×Int×Unit)×List Int×List Int×List Int×List Int×Unit:=(3,1,2,0,0,false,[],[],[],[],[],[],[],[],[],())
theorem uC2 :zJ.f ⟨#[50,48,50,54,48,51,48,49,84,48,48,48,48,48,48]⟩=some (1772323200,0,()):=bD (E:=E) (f:=62) rfl (D:=c62) (c:=b62) (by kernel_rfl) (by kernel_rfl) _ 100 (by kernel_rfl)
theorem ex_a :zJ.f ⟨#[50,48,50,54,48,49,48,53,84,48,56,48,48,48,48]⟩=some (1767600000,0,()):=bD (E:=E) (f:=62) rfl (D:=c62) (c:=b62) (by kernel_rfl) (by kernel_rfl) _ 100 (by kernel_rfl)
theorem ex_b :zJ.f ⟨#[50,48,50,54,48,49,49,50,84,48,56,48,48,48,48]⟩=some (1768204800,0,()):=bD (E:=E) (f:=62) rfl (D:=c62) (c:=b62) (by kernel_rfl) (by kernel_rfl) _ 100 (by kernel_rfl)
theorem aD2 :tE.f (3600,[],[],0,()) 1767603600=some (1767600000,()):=bD (E:=E) (f:=39) rfl (D:=c39) (c:=b39) (by kernel_rfl) (by kernel_rfl) _ 100 (by kernel_rfl)
theorem lD2 :tE.f (3600,[],[],0,()) 1768208400=some (1768204800,()):=bD (E:=E) (f:=39) rfl (D:=c39) (c:=b39) (by kernel_rfl) (by kernel_rfl) _ 100 (by kernel_rfl)
theorem ex_z :rD.f (3600,[],[],0,())=some (true,()):=bD (E:=E) (f:=83) rfl (D:=c83) (c:=b83) (by kernel_rfl) (by kernel_rfl) _ 100 (by kernel_rfl)
theorem ex_m :mE.f (0,1767603600,3600,true,r0,[],[],())=some (true,()):=bD (E:=E) (f:=36) rfl (D:=c36) (c:=b36) (by kernel_rfl) (by kernel_rfl) _ 100 (by kernel_rfl)
theorem szS (l:List UInt8):(mkS l).size=l.length:=by rw[tV1,B_mk]
def F0 :List UInt8:=[68,84,83,84,65,82,84,59,84,90,73,68,61]
def F1 :List UInt8:=[68,85,82,65,84,73,79,78,58]
def F2 :List UInt8:=[82,82,85,76,69,58]
def F3 :List UInt8:=[82,68,65,84,69,58]
def F4 :List UInt8:=[69,88,68,65,84,69,58]
theorem fr0 :zD.f 0=some (mkS F0,()):=by rw[zD.f_eq];rfl
theorem fr1 :zD.f 1=some (mkS F1,()):=by rw[zD.f_eq];rfl
theorem fr2 :zD.f 2=some (mkS F2,()):=by rw[zD.f_eq];rfl
theorem fr3 :zD.f 3=some (mkS F3,()):=by rw[zD.f_eq];rfl
theorem fr4 :zD.f 4=some (mkS F4,()):=by rw[zD.f_eq];rfl
def Fr :Nat→List UInt8
 | 0=>F0
 | 1=>F1
 | 2=>F2
 | 3=>F3
 | _=>F4
theorem fr_k (k:Nat) (hk:k<5):zD.f (k:Int)=some (mkS (Fr k),()):=by
 have:k=0∨k=1∨k=2∨k=3∨k=4:=by omega
 rcases this with rfl | rfl | rfl | rfl | rfl
 ·exact fr0
 ·exact fr1
 ·exact fr2
 ·exact fr3
 ·exact fr4
def pf (F s:List UInt8):Bool:=decide (s.take F.length=F)
theorem oV (s F:List UInt8):jE.f (mkS s) (mkS F)=some (pf F s,()):=by
 unfold pf;rw[jE.f_eq,bG.f_eq,szS,szS];by_cases c:(s.length:Int)≥(F.length:Int)
 ·have e:(mkS s).extract 0 F.length=mkS (s.take F.length):=gU1 (by rw[wA2,B_mk,B_mk]);have hd:(mkS (s.take F.length)=mkS F)↔s.take F.length=F:=⟨fun h=>congrArg B h,fun h=>by rw[h]⟩
  simp(disch:=omega)only[ss,nD2,e];rw[decide_eq_decide.2 hd]
 ·rw[dn c,cond_false,dn (fun h=>c (by have:=congrArg List.length h;rw[fF2]at this;omega))];rfl
theorem rG1 (k:Nat) (v:List UInt8):pf (Fr k) (Fr k++v)=true:=by unfold pf;rw[cH2];exact dp rfl
abbrev zM :Mt:=(0,0,0,false,zR,[],[],())
abbrev Rs :Type:=Option (Mt×Int×Int×Unit)
def bad9 (i:Int):Rs:=some (zM,i,4,())
noncomputable def QA (X:List ByteArray) (nx i:Int) (y:Mt):Rs:=nA.l1a X nx X (X.length:Int) i 0 0 0 false 0 0 0 0 0 false y
noncomputable def QB (X:List ByteArray) (s:ByteArray) (nx i:Int) (y:Mt):Rs:=nA.l2a X i s nx X (X.length:Int) i 0 0 0 false 0 0 0 0 0 false y
noncomputable def QC (X:List ByteArray) (nx i:Int) (b:Bool) (y:Mt):Rs:=bif b then bad9 i else QA X (nx+1) (i+1) y
theorem wZ1 (X:List ByteArray) (nx i:Nat) (b:Bool) (y:Mt) (h:nx<10) (h2:i<1000000):nA.l5a X (i:Int) (nx:Int) X (X.length:Int) (i:Int) b 0 0 0 false 0 0 0 0 0 false y=QC X nx i b y:=by
 rw[nA.l5a_eq];unfold QC QA bad9
 cases b with
 | true=>rfl
 | false=>simp(disch:=omega)only[ss]
theorem wU1 (X:List ByteArray) (s:List UInt8) (k i:Nat) (y:Mt) (hk:k<5) (hi:i<1000000) (hp:pf (Fr k) s=true):
  QB X (mkS s) k i y=(jH.f y (k:Int) (mkS (s.drop (Fr k).length))).bind fun t=>QC X k i (!t.1) t.2.1:=by
 have hl:(Fr k).length≤s.length:=by unfold pf at hp;have:=congrArg List.length (of_decide_eq_true hp);rw[fF2]at this;omega
 have hx:(mkS s).extract (Fr k).length s.length=mkS (s.drop (Fr k).length):=gU1 (by rw[←szS s,nV1,B_mk,B_mk]);unfold QB;rw[nA.l2a_eq];simp(disch:=omega)only[ss,fr_k k hk,oV,hp,nA.l3a_eq];rw[nA.l4a_eq];simp(disch:=omega)only[ss,fr_k k hk,oV,hp,szS,hx]
 congr 1
 funext t
 exact wZ1 X k i _ _ (by omega) hi
theorem sB2 (X:List ByteArray) (s:List UInt8) (nx i:Nat) (y:Mt) (hi:i<X.length) (hX:X.getD i ByteArray.empty=mkS s):QA X nx i y=QB X (mkS s) nx i y:=by unfold QA QB;rw[nA.l1a_eq];simp(disch:=omega)only[ss,hX]
theorem tB2 (X:List ByteArray) (nx:Nat) (y:Mt):QA X nx X.length y=if nx≤1 then some (zM,(X.length:Int),2,())else(mE.f y).bind fun t=>bif !t.1 then some (zM,0,1,())else some (y,0,0,()):=by
 unfold QA;rw[nA.l1a_eq];by_cases c:nx≤1
 ·rw[if_pos c];simp(disch:=omega)only[ss];rfl
 ·rw[if_neg c];simp(disch:=omega)only[ss];rfl
theorem lW1 (X:List ByteArray) (s:List UInt8) (hi:0<X.length) (hX:X.getD 0 ByteArray.empty=mkS s):
  nA.l1 X 0 X (X.length:Int) 0 0 0 0 false 0 0 0 0 0 false 0 0 0 false 0 0 0 0 0 false=bif pf F0 s then(jH.f zM 0 (mkS (s.drop F0.length))).bind fun t=>QC X ((0:Nat):Int) ((0:Nat):Int) (!t.1) t.2.1 else bad9 0:=by
 have t0:(0:Int).toNat=0:=rfl;rw[nA.l1_eq];simp(disch:=omega)only[ss,t0,hX];rw[nA.l2_eq];simp(disch:=omega)only[ss,fr0,oV]
 cases hp:pf F0 s with
 | false=>
  simp(disch:=omega)only[ss,nA.l3_eq];rw[nA.l4_eq];simp(disch:=omega)only[ss,fr0,oV,hp,nA.l5_eq];rfl
 | true=>
  have hl:F0.length≤s.length:=by unfold pf at hp;have:=congrArg List.length (of_decide_eq_true hp);rw[fF2]at this;omega
  have hx:(mkS s).extract F0.length s.length=mkS (s.drop F0.length):=gU1 (by rw[←szS s,nV1,B_mk,B_mk]);simp(disch:=omega)only[ss,nA.l3_eq];rw[nA.l4_eq];simp(disch:=omega)only[ss,fr0,oV,hp,szS,hx]
  congr 1
  funext t
  exact wZ1 X 0 0 _ _ (by omega) (by omega)
set_option maxRecDepth 1000000
abbrev exA :List UInt8:=[48,58,50,48,50,54,48,49,48,53,84,48,57,48,48,48,48]
abbrev exB :List UInt8:=[80,84,49,72]
abbrev exR :List UInt8:=[70,82,69,81,61,87,69,69,75,76,89,59,67,79,85,78,84,61,50]
theorem xR1 :qL.f ⟨#[48,58,50,48,50,54,48,49,48,53,84,48,57,48,48,48,48]⟩=some (0,1767603600,true,()):=bD (E:=E) (f:=169) rfl (D:=c169) (c:=b169) (by kernel_rfl) (by kernel_rfl) _ 100 (by kernel_rfl)
theorem nB2 :rL.f ⟨#[80,84,49,72]⟩=some (3600,0,()):=bD (E:=E) (f:=170) rfl (D:=c170) (c:=b170) (by kernel_rfl) (by kernel_rfl) _ 100 (by kernel_rfl)
theorem bZ1 :bR.f ⟨#[70,82,69,81,61,87,69,69,75,76,89,59,67,79,85,78,84,61,50]⟩=some (r0,0,0,()):=bD (E:=E) (f:=49) rfl (D:=c49) (c:=b49) (by kernel_rfl) (by kernel_rfl) _ 100 (by kernel_rfl)
theorem yA2 :jR.f [68,84,83,84,65,82,84,59,84,90,73,68,61,48,58,50,48,50,54,48,49,48,53,84,48,57,48,48,48,48,13,10,68,85,82,65,84,73,79,78,58,80,84,49,72,13,10,82,82,85,76,69,58,70,82,69,81,61,87,69,69,75,76,89,59,67,79,85,78,84,61,50,13,10]=some ([⟨#[68,84,83,84,65,82,84,59,84,90,73,68,61,48,58,50,48,50,54,48,49,48,53,84,48,57,48,48,48,48]⟩,⟨#[68,85,82,65,84,73,79,78,58,80,84,49,72]⟩,⟨#[82,82,85,76,69,58,70,82,69,81,61,87,69,69,75,76,89,59,67,79,85,78,84,61,50]⟩],0,0,()):=bD (E:=E) (f:=108) rfl (D:=c108) (c:=b108) (by kernel_rfl) (by kernel_rfl) _ 300 (by kernel_rfl)
theorem ex_p :nA.f [68,84,83,84,65,82,84,59,84,90,73,68,61,48,58,50,48,50,54,48,49,48,53,84,48,57,48,48,48,48,13,10,68,85,82,65,84,73,79,78,58,80,84,49,72,13,10,82,82,85,76,69,58,70,82,69,81,61,87,69,69,75,76,89,59,67,79,85,78,84,61,50,13,10]=some ((0,1767603600,3600,true,r0,[],[],()),0,0,()):=by
 have hs:jR.f [68,84,83,84,65,82,84,59,84,90,73,68,61,48,58,50,48,50,54,48,49,48,53,84,48,57,48,48,48,48,13,10,68,85,82,65,84,73,79,78,58,80,84,49,72,13,10,82,82,85,76,69,58,70,82,69,81,61,87,69,69,75,76,89,59,67,79,85,78,84,61,50,13,10]=some ([F0++exA,F1++exB,F2++exR].map mkS,0,0,()):=yA2;obtain⟨X,hX⟩:∃X,X=[F0++exA,F1++exB,F2++exR].map mkS:=⟨_,rfl⟩
 have hl:X.length=3:=by rw[hX];rfl
 have g0:X.getD 0 ByteArray.empty=mkS (Fr 0++exA):=by rw[hX];rfl
 have g1:X.getD 1 ByteArray.empty=mkS (Fr 1++exB):=by rw[hX];rfl
 have g2:X.getD 2 ByteArray.empty=mkS (Fr 2++exR):=by rw[hX];rfl
 have r1:jH.f zM 0 (mkS exA)=some (true,(0,1767603600,0,false,zR,[],[],()),()):=by rw[jH.f_eq];simp(disch:=omega)only[ss,show qL.f (mkS exA)=_ from xR1]
 have r2:jH.f (0,1767603600,0,false,zR,[],[],()) ((1:Nat):Int) (mkS exB)=some (true,(0,1767603600,3600,false,zR,[],[],()),()):=by rw[jH.f_eq];simp(disch:=omega)only[ss,show rL.f (mkS exB)=_ from nB2]
 have r3:jH.f (0,1767603600,3600,false,zR,[],[],()) ((2:Nat):Int) (mkS exR)=some (true,(0,1767603600,3600,true,r0,[],[],()),()):=by rw[jH.f_eq];simp(disch:=omega)only[ss,show bR.f (mkS exR)=_ from bZ1]
 have hm:mE.f (0,1767603600,3600,true,r0,[],[],())=some (true,()):=ex_m;rw[nA.f_eq,hs,←hX];simp only[hE2,decide_true,lE2,cond_false];rw[lW1 X _ (by omega) g0,show pf F0 (Fr 0++exA)=true from rG1 0 exA,cond_true,show(Fr 0++exA).drop F0.length=exA from wG2 (l₁:=F0),r1];simp only[hE2];show QA X ((1:Nat):Int) ((1:Nat):Int) _=_;rw[sB2 X _ 1 1 _ (by omega) g1,wU1 X _ 1 1 _ (by omega) (by omega) (rG1 1 exB),wG2,r2];simp only[hE2];show QA X ((2:Nat):Int) ((2:Nat):Int) _=_;rw[sB2 X _ 2 2 _ (by omega) g2,wU1 X _ 2 2 _ (by omega) (by omega) (rG1 2 exR),wG2,r3];simp only[hE2];show QA X ((3:Nat):Int) ((3:Nat):Int) _=_;have:=tB2 X 3 (0,1767603600,3600,true,r0,[],[],());rw[hl,if_neg (by omega),hm]at this;exact this
set_option maxRecDepth 1000000
abbrev exD :Int×Int×Int×Int×Int×Unit:=(20458,2026,1,5,0,())
abbrev exP :(Int×Int×Int×Int×Int×Bool×List Int×List Int×List Int×List Int×List (Int×Int×Unit)×List Int×List Int×List Int×List Int×Unit)×((Int×Int×Int×Int×Int×Bool×List Int×List Int×List Int×List Int×List (Int×Int×Unit)×List Int×List Int×List Int×List Int×Unit)×Int×(Int×Int×Int×Int×Int×Unit)×Int×Unit)×Int×List Int×List Int×List Int×Unit:=(r0,(r0,1767603600,exD,32400,()),1767603600,[9],[0],[0],())
theorem yW1 :iD.f r0 1767603600 1772496000=some (exP,true,()):=bD (E:=E) (f:=65) rfl (D:=c65) (c:=b65) (by kernel_rfl) (by kernel_rfl) _ 120 (by kernel_rfl)
theorem oD2 :gE.f (r0,1767603600,exD,32400,()) 1767603600=some (20458,20464,()):=bD (E:=E) (f:=205) rfl (D:=c205) (c:=b205) (by kernel_rfl) (by kernel_rfl) _ 60 (by kernel_rfl)
theorem xD2 :gE.f (r0,1767603600,exD,32400,()) 1768176000=some (20465,20471,()):=bD (E:=E) (f:=205) rfl (D:=c205) (c:=b205) (by kernel_rfl) (by kernel_rfl) _ 60 (by kernel_rfl)
theorem jD2 :nE.f exP 1767603600=some (true,()):=bD (E:=E) (f:=206) rfl (D:=c206) (c:=b206) (by kernel_rfl) (by kernel_rfl) _ 60 (by kernel_rfl)
theorem dE2 :nE.f exP 1768176000=some (true,()):=bD (E:=E) (f:=206) rfl (D:=c206) (c:=b206) (by kernel_rfl) (by kernel_rfl) _ 60 (by kernel_rfl)
theorem tC2 :cC.f exP 20458=some (true,()):=bD (E:=E) (f:=208) rfl (D:=c208) (c:=b208) (by kernel_rfl) (by kernel_rfl) _ 60 (by kernel_rfl)
theorem bC2 :cC.f exP 20459=some (false,()):=bD (E:=E) (f:=208) rfl (D:=c208) (c:=b208) (by kernel_rfl) (by kernel_rfl) _ 60 (by kernel_rfl)
theorem gE2 :cC.f exP 20460=some (false,()):=bD (E:=E) (f:=208) rfl (D:=c208) (c:=b208) (by kernel_rfl) (by kernel_rfl) _ 60 (by kernel_rfl)
theorem fD2 :cC.f exP 20461=some (false,()):=bD (E:=E) (f:=208) rfl (D:=c208) (c:=b208) (by kernel_rfl) (by kernel_rfl) _ 60 (by kernel_rfl)
theorem zD2 :cC.f exP 20462=some (false,()):=bD (E:=E) (f:=208) rfl (D:=c208) (c:=b208) (by kernel_rfl) (by kernel_rfl) _ 60 (by kernel_rfl)
theorem qD2 :cC.f exP 20463=some (false,()):=bD (E:=E) (f:=208) rfl (D:=c208) (c:=b208) (by kernel_rfl) (by kernel_rfl) _ 60 (by kernel_rfl)
theorem pC2 :cC.f exP 20464=some (false,()):=bD (E:=E) (f:=208) rfl (D:=c208) (c:=b208) (by kernel_rfl) (by kernel_rfl) _ 60 (by kernel_rfl)
theorem nC2 :cC.f exP 20465=some (true,()):=bD (E:=E) (f:=208) rfl (D:=c208) (c:=b208) (by kernel_rfl) (by kernel_rfl) _ 60 (by kernel_rfl)
theorem zB2 :eA.f exP 20458 0 86400 100000 ()=some ([1767603600],(),()):=bD (E:=E) (f:=100001) rfl (D:=gB1) (c:=oM1) (by kernel_rfl) (by kernel_rfl) _ 60 (by kernel_rfl)
theorem fC2 :eA.f exP 20465 0 86400 100000 ()=some ([1768208400],(),()):=bD (E:=E) (f:=100001) rfl (D:=gB1) (c:=oM1) (by kernel_rfl) (by kernel_rfl) _ 60 (by kernel_rfl)
abbrev exC (l:List Int):(Int×Unit)×(Int×Unit)×((((List Int)×Unit)×(Int×Unit)×Unit)×Unit)×Unit:=((1767603600,()),(1772496000,()),(((l,()),(2,()),()),()),())
theorem iC2 :uA.f [1767603600] (1767603600,()) (1772496000,()) ((([],()),(2,()),()),())=some (true,(1767603600,()),(1772496000,()),((([1767603600],()),(2,()),()),()),()):=bD (E:=E) (f:=100005) rfl (D:=xA1) (c:=eO1) (by kernel_rfl) (by kernel_rfl) _ 60 (by kernel_rfl)
theorem eE2 :uA.f [1768208400] (1767603600,()) (1772496000,()) ((([1767603600],()),(2,()),()),())=some (false,(1767603600,()),(1772496000,()),((([1767603600,1768208400],()),(2,()),()),()),()):=bD (E:=E) (f:=100005) rfl (D:=xA1) (c:=eO1) (by kernel_rfl) (by kernel_rfl) _ 60 (by kernel_rfl)
theorem mA2 :uF.f 1767603600=some (20458,32400,()):=bD (E:=E) (f:=122) rfl (D:=c122) (c:=b122) (by kernel_rfl) (by kernel_rfl) _ 60 (by kernel_rfl)
theorem xA2 :uF.f 1772496000=some (20515,0,()):=bD (E:=E) (f:=122) rfl (D:=c122) (c:=b122) (by kernel_rfl) (by kernel_rfl) _ 60 (by kernel_rfl)
theorem uK1 (d:Int) (h0:20458≤d) (hd:d≤20464) (hf:cC.f exP d=some (false,())):kA.l1 20464 20515 d 1767603600 1772496000 2 [1767603600] exP=kA.l1 20464 20515 (d+1) 1767603600 1772496000 2 [1767603600] exP:=by
 have hm:mm false 20464 20515=20464:=rfl
 conv=>lhs;rw[kA.l1_eq]
 simp(disch:=omega)only[ss,hm,hf,kA.l2_eq]
theorem uD2 :kA.f exP 1767603600 20458 20464 1767603600 1772496000 (exC [])=some (true,exC [1767603600],()):=by
 have hm:mm false 20464 20515=20464:=rfl;have h0:kA.f exP 1767603600 20458 20464 1767603600 1772496000 (exC [])=kA.l1 20464 20515 20458 1767603600 1772496000 2 [] exP:=by rw[kA.f_eq,mA2,xA2];rfl
 rw[h0,kA.l1_eq,hm,dp (by omega),cond_true,tC2];simp only[hE2,cond_true];rw[zB2];simp only[hE2];rw[iC2];simp only[hE2,lE2];rw[kA.l2_eq,cond_false,wr (by omega) (by omega)]
 rw[show(20458+1:Int)=20459 from rfl,uK1 20459 (by omega) (by omega) bC2,show(20459+1:Int)=20460 from rfl,uK1 20460 (by omega) (by omega) gE2,show(20460+1:Int)=20461 from rfl,uK1 20461 (by omega) (by omega) fD2,
  show(20461+1:Int)=20462 from rfl,uK1 20462 (by omega) (by omega) zD2,show(20462+1:Int)=20463 from rfl,uK1 20463 (by omega) (by omega) qD2,show(20463+1:Int)=20464 from rfl,uK1 20464 (by omega) (by omega) pC2,show(20464+1:Int)=20465 from rfl]
 rw[kA.l1_eq,hm,dn (by omega),cond_false]
theorem vC2 :kA.f exP 1768176000 20465 20471 1767603600 1772496000 (exC [1767603600])=some (false,exC [1767603600,1768208400],()):=by
 have hm:mm false 20471 20515=20471:=rfl;have h0:kA.f exP 1768176000 20465 20471 1767603600 1772496000 (exC [1767603600])=kA.l1 20471 20515 20465 1767603600 1772496000 2 [1767603600] exP:=by rw[kA.f_eq,mA2,xA2];rfl
 rw[h0,kA.l1_eq,hm,dp (by omega),cond_true,nC2];simp only[hE2,cond_true];rw[fC2];simp only[hE2];rw[eE2];simp only[hE2,eF2];rw[kA.l2_eq,cond_true]
theorem dY1 :rA.f exP 1767603600 1772496000 (exC [])=some (exC [1767603600,1768208400],()):=by rw[rA.f_eq,rA.l1_eq,dp (by omega),cond_true];rw[show gE.f exP.2.1 1767603600=_ from oD2];simp only[hE2];rw[jD2];simp only[hE2,cond_true];rw[uD2];simp only[hE2,lE2];rw[rA.l2_eq,cond_false,wr (x:=20464+1) (by omega) (by omega),wr (by omega) (by omega),show((20464+1)*86400:Int)=1768176000 from rfl,rA.l1_eq,dp (by omega),cond_true];rw[show gE.f exP.2.1 1768176000=_ from xD2];simp only[hE2];rw[dE2];simp only[hE2,cond_true];rw[vC2];simp only[hE2,eF2];rw[rA.l2_eq,cond_true]
theorem ex_l :iF.f r0 1767603600 1772496000 4096=some ([1767603600,1768208400],0,()):=by
 have hw:jC.f exP 1767603600 1772496000 (([],()),(2,()),())=some ((([1767603600,1768208400],()),(2,()),()),()):=by rw[jC.f_eq];dsimp only;rw[cond_false,show mm true 1767603600 1767603600=1767603600 from rfl,jC.l1_eq];dsimp only;rw[dp (by omega),cond_true,dY1];rfl
 have hf:yD.f exP r0 1767603600 1772496000 4097=some ([1767603600,1768208400],()):=by rw[yD.f_eq];dsimp only;rw[dp (by omega),cond_true,show mm false 4097 2=2 from rfl,yD.l1_eq,hw];rfl
 rw[iF.f_eq,yW1];simp only[hE2,lE2,cond_false];rw[dn (by omega),cond_false,dn (by omega),cond_false,wr (by omega) (by omega),show(4096+1:Int)=4097 from rfl,hf];simp(disch:=omega)only[ss,iF2,lG2]
abbrev qC2 (l:List Int):Prop:=l.Pairwise (· < ·)
def dd :Int→List Int→List Int
 | _,[]=>[]
 | p,a::l=>if a=p then dd a l else a::dd a l
theorem fV1 :∀(l:List Int) (p x:Int),x∈dd p l∨x=p↔x∈l∨x=p
 | [],p,x=>by simp[dd]
 | a::l,p,x=>by
  unfold dd;have ih:=fV1 l a x;by_cases h:a=p
  ·subst h;rw[if_pos rfl,ih,pE2];constructor
   ·rintro(h | h)
    ·exact .inl (.inr h)
    ·exact .inr h
   ·rintro((h | h) | h)
    ·exact .inr h
    ·exact .inl h
    ·exact .inr h
  ·rw[if_neg h,pE2,pE2];constructor
   ·rintro((h1 | h1) | h1)
    ·exact .inl (.inl h1)
    ·rcases ih.1 (.inl h1)with h2 | h2
     ·exact .inl (.inr h2)
     ·exact .inl (.inl h2)
    ·exact .inr h1
   ·rintro((h1 | h1) | h1)
    ·exact .inl (.inl h1)
    ·rcases ih.2 (.inl h1)with h2 | h2
     ·exact .inl (.inr h2)
     ·exact .inl (.inl h2)
    ·exact .inr h1
theorem yH1 :∀(l:List Int) (p:Int),(p::l).Pairwise (· ≤ ·)→qC2 (p::dd p l)
 | [],p,_=>List.pairwise_singleton _ _
 | a::l,p,h=>by
  unfold dd;rw[xF2]at h;have ih:=yH1 l a h.2;by_cases he:a=p
  ·subst he;rw[if_pos rfl];exact ih
  ·rw[if_neg he];have hlt:p<a:=by have:=h.1 a nE2;omega
   refine xF2.2 ⟨fun b hb=>?_,ih⟩;rcases pE2.1 hb with rfl | hb
   ·exact hlt
   ·have:=(xF2.1 ih).1 b hb;omega
def dds :List Int→List Int
 | []=>[]
 | a::l=>a::dd a l
theorem hY1 (N:Nat) (hN:N≤1000000) (b:Nat):∀(k i q:Nat) (y:List Int),y.length=N→N-(b+q)=k→1≤q→i<b+q→b+q≤N →
  fA.l3 i b q y=some (y.take i++dd (y.getD (b+q-1) 0) (y.drop (b+q)),()):=by
 intro k
 induction k with
 | zero=>
  intro i q y hy hk hq hi hb;have e:b+q=y.length:=by omega
  have e2:(y.take i++List.replicate (y.length-i) 0).take i=y.take i:=by rw[jG2 (by rw[fF2];omega),List.take_take,Nat.min_self]
  rw[fA.l3_eq,e,jF2];simp(disch:=omega)only[ss,jE2,fF2,List.length_replicate,e2,fA.l4_eq,dd,zE2]
 | succ k ih=>
  intro i q y hy hk hq hi hb;have hlt:b+q<y.length:=by omega
  have w1:w6 ((q:Int)-1)=((q-1:Nat):Int):=vA1 (by omega) (by omega);have w2:((b:Int)+((q-1:Nat):Int)).toNat=b+q-1:=by omega
  have e1:((q:Int)<((y.length-b:Nat):Int)):=by omega
  rw[fA.l3_eq,iB 0 hlt];simp(disch:=omega)only[ss,w1,w2,e1,fG2,dd];by_cases hc:y.getD (b+q) 0=y.getD (b+q-1) 0
  ·simp(disch:=omega)only[ss,if_pos hc];have:=ih i (q+1) y hy (by omega) (by omega) (by omega) (by omega);rw[show b+(q+1)-1=b+q by omega,show b+(q+1)=b+q+1 by omega]at this;exact this
  ·simp(disch:=omega)only[ss,if_neg hc];have:=ih (i+1) (q+1) (y.set i (y.getD (b+q) 0)) (by simp[hy]) (by omega) (by omega) (by omega) (by omega);refine this.trans ?_;have g1:(y.set i (y.getD (b+q) 0)).getD (b+(q+1)-1) 0=y.getD (b+q) 0:=by
    rw[show b+(q+1)-1=b+q by omega,oE2,oE2,List.getElem?_set];by_cases h:i=b+q
    ·omega
    ·rw[if_neg h]
   have g2:(y.set i (y.getD (b+q) 0)).getD i 0=y.getD (b+q) 0:=by rw[kN 0 (show i<(y.set i (y.getD (b+q) 0)).length by simp;omega)];simp
   rw[g1,rK 0 (show i<(y.set i (y.getD (b+q) 0)).length by simp;omega),List.drop_set_of_lt (by omega),List.take_set_of_le (rE2 i),g2,show b+(q+1)=b+q+1 by omega];simp
theorem eW1 (y:List Int) (hN:y.length≤1000000):∀(k q:Nat),y.length-q=k→1≤q→q≤y.length →
  fA.l2 q y=some (y.take q++dd (y.getD (q-1) 0) (y.drop q),()):=by
 intro k
 induction k with
 | zero=>
  intro q hk hq hq2;have e:q=y.length:=by omega
  subst e;rw[fA.l2_eq];simp(disch:=omega)only[ss,fA.l5_eq,jF2,List.take_length,dd,zE2]
 | succ k ih=>
  intro q hk hq hq2;have hlt:q<y.length:=by omega
  have w1:w6 ((q:Int)-1)=((q-1:Nat):Int):=vA1 (by omega) (by omega);rw[fA.l2_eq,iB 0 hlt];simp(disch:=omega)only[ss,w1,dd];by_cases hc:y.getD q 0=y.getD (q-1) 0
  ·simp(disch:=omega)only[ss,if_pos hc];have:=hY1 y.length hN q _ q 1 y rfl rfl (rE2 _) (by omega) (by omega);rw[show q+1-1=q by omega]at this;exact this
  ·simp(disch:=omega)only[ss,if_neg hc];have:=ih (q+1) (by omega) (by omega) (by omega);rw[show q+1-1=q by omega,rK 0 hlt]at this;refine Eq.trans this ?_;simp
theorem xC1 (y:List Int) (hN:y.length≤1000000):fA.f y=some (dds y,()):=by
 rw[fA.f_eq]
 cases y with
 | nil=>simp(disch:=omega)only[ss,lG2,qE2,fA.l1_eq];rfl
 | cons a l=>
  by_cases h:l=[]
  ·subst h;simp(disch:=omega)only[ss,iF2,lG2,fA.l1_eq];rfl
  ·have h1:0<l.length:=pH2.2 h;have:=eW1 (a::l) hN _ 1 rfl (rE2 _) (by simp);simp(disch:=omega)only[ss,iF2];refine Eq.trans this ?_;rfl
def kI (ex:List Int) (e t:Int):Bool:= !(decide (t∈ex)||decide (t≥e))
theorem fP1 {p:Int→Bool} {x:Int} (h:p x=false):List.filter p [x]=[]:=by rw[bH2,h];rfl
theorem zT1 {p:Int→Bool} {x:Int} (h:p x=true):List.filter p [x]=[x]:=by rw[bH2,h];rfl
section
variable (z st du : Int) (rc : Bool) (f iv ct un wk : Int) (en : Bool) (mo we yd md : List Int) (dy : List (Int × Int × Unit)) (ho mi se po da ex : List Int) (e : Int)
theorem oB2 (hx:Rise ex) (hl:ex.length≤1000000) (t:Int):yI.f t (z,st,du,rc,f,iv,ct,un,wk,en,mo,we,yd,md,dy,ho,mi,se,po,da,ex,()) (e,())=some (!kI ex e t,(z,st,du,rc,f,iv,ct,un,wk,en,mo,we,yd,md,dy,ho,mi,se,po,da,ex,()),(e,()),()):=by
 obtain⟨i,h1,h2,h3⟩:=aV1 hl hx t;have hd:decide (i<ex.length∧ex.getD i 0=t)=decide (t∈ex):=decide_eq_decide.2 ⟨fun h=>by rw[←h.2];exact yG h.1,h3⟩;rw[hd]at h1;rw[yI.f_eq];dsimp only;rw[h1];simp only[hE2];unfold kI;by_cases c:t∈ex
 ·rw[dp c,cond_true,Bool.true_or];rfl
 ·rw[dn c,cond_false,Bool.false_or,Bool.not_not]
theorem bA2 (hx:Rise ex) (hl:ex.length≤1000000) (l:List Int) (hn:l.length≤1000000):∀(k i:Nat),l.length-i=k→i≤l.length →
  (∃j,i≤j∧j<l.length∧kI ex e (l.getD j 0)=false∧(∀q,i≤q→q<j→kI ex e (l.getD q 0)=true)∧kB.l1 (l.length:Int) (i:Int) l (z,st,du,rc,(f,iv,ct,un,wk,en,mo,we,yd,md,dy,ho,mi,se,po,()),da,ex,()) e=some ((j:Int),l,((z,st,du,rc,f,iv,ct,un,wk,en,mo,we,yd,md,dy,ho,mi,se,po,da,ex,()),(e,()),()),())) ∨
  ((∀q,i≤q→q<l.length→kI ex e (l.getD q 0)=true)∧kB.l1 (l.length:Int) (i:Int) l (z,st,du,rc,(f,iv,ct,un,wk,en,mo,we,yd,md,dy,ho,mi,se,po,()),da,ex,()) e=some (-1,l,((z,st,du,rc,f,iv,ct,un,wk,en,mo,we,yd,md,dy,ho,mi,se,po,da,ex,()),(e,()),()),())):=by
 intro k
 induction k with
 | zero=>
  intro i hk hi;refine .inr ⟨fun q h1 h2=>by omega,?_⟩;rw[kB.l1_eq];simp(disch:=omega)only[ss]
 | succ k ih=>
  intro i hk hi;have hlt:i<l.length:=by omega
  rw[kB.l1_eq];dsimp only;have h1:=oB2 z st du rc f iv ct un wk en mo we yd md dy ho mi se po da ex e hx hl (l.getD i 0);simp(disch:=omega)only[ss,h1];cases hkp:kI ex e (l.getD i 0)with
  | false=>
   refine .inl ⟨i,rE2 _,hlt,hkp,fun q h1 h2=>by omega,?_⟩;rfl
  | true=>
   simp only[lE2,cond_false];rcases ih (i+1) (by omega) (by omega)with⟨j,a1,a2,a3,a4,a5⟩ | ⟨a1,a2⟩
   ·refine .inl ⟨j,by omega,a2,a3,fun q q1 q2=>?_,a5⟩;by_cases c:q=i
    ·rw[c];exact hkp
    ·exact a4 q (by omega) q2
   ·refine .inr ⟨fun q q1 q2=>?_,a2⟩;by_cases c:q=i
    ·rw[c];exact hkp
    ·exact a1 q (by omega) q2
theorem zA2 (hx:Rise ex) (hl:ex.length≤1000000) (l:List Int) (hn:l.length≤1000000):∀(k i p:Nat) (y:List Int),l.length-i=k→i≤l.length→p≤i→y.length=l.length→y.take p=(l.take i).filter (kI ex e)→y.drop i=l.drop i →
  lA.l2 (p:Int) (i:Int) y (z,st,du,rc,(f,iv,ct,un,wk,en,mo,we,yd,md,dy,ho,mi,se,po,()),da,ex,()) e=some (l.filter (kI ex e),((z,st,du,rc,f,iv,ct,un,wk,en,mo,we,yd,md,dy,ho,mi,se,po,da,ex,()),(e,()),()),()):=by
 intro k
 induction k with
 | zero=>
  intro i p y hk hi hp hy ht hd;have e1:i=l.length:=by omega
  subst e1;rw[List.take_length]at ht;have hlen:(y.take p++List.replicate (y.length-p) 0).length=y.length:=by simp;omega
  have htk:(y.take p++List.replicate (y.length-p) 0).take p=l.filter (kI ex e):=by rw[jG2 (by rw[fF2];omega),List.take_take,Nat.min_self,ht]
  rw[lA.l2_eq];simp(disch:=omega)only[ss,hlen,htk,lA.l3_eq]
 | succ k ih=>
  intro i p y hk hi hp hy ht hd;have hlt:i<l.length:=by omega
  have hg:y.getD i 0=l.getD i 0:=by have h1:=iB 0 (show i<y.length by omega);have h2:=iB 0 hlt;rw[hd,h2]at h1;injection h1 with h1 _;exact h1.symm
  have hd':y.drop (i+1)=l.drop (i+1):=by have h1:=congrArg (List.drop 1) hd;rwa[List.drop_drop,List.drop_drop]at h1
  have h1:=oB2 z st du rc f iv ct un wk en mo we yd md dy ho mi se po da ex e hx hl (l.getD i 0);rw[lA.l2_eq];dsimp only;simp(disch:=omega)only[ss,hg,h1];cases hkp:kI ex e (l.getD i 0)with
  | false=>
   simp only[eF2,cond_true,lE2,cond_false];exact ih (i+1) p y (by omega) (by omega) (by omega) hy (by rw[rK 0 hlt,List.filter_append,ht,fP1 hkp,zE2]) hd'
  | true=>
   simp only[eF2,cond_true,lE2,cond_false];refine ih (i+1) (p+1) (y.set p (l.getD i 0)) (by omega) (by omega) (by omega) (by rw[uH2];exact hy) ?_ ?_
   ·rw[rK 0 hlt,List.filter_append,←ht];rw[rK 0 (show p<(y.set p (l.getD i 0)).length by rw[uH2];omega),List.take_set_of_le (rE2 _)]
    congr 1
    rw[oE2,List.getElem?_set_self (by omega),zG2,zT1 hkp]
   ·rw[List.drop_set_of_lt (by omega)];exact hd'
theorem hU1 (hx:Rise ex) (hl:ex.length≤1000000) (l:List Int) (hn:l.length≤1000000):lA.f l ((z,st,du,rc,f,iv,ct,un,wk,en,mo,we,yd,md,dy,ho,mi,se,po,da,ex,()),(e,()),())=some (l.filter (kI ex e),((z,st,du,rc,f,iv,ct,un,wk,en,mo,we,yd,md,dy,ho,mi,se,po,da,ex,()),(e,()),()),()):=by
 have hI:∀v,kB.l1 (l.length:Int) ((0:Nat):Int) l (z,st,du,rc,(f,iv,ct,un,wk,en,mo,we,yd,md,dy,ho,mi,se,po,()),da,ex,()) e=v→kB.f l ((z,st,du,rc,f,iv,ct,un,wk,en,mo,we,yd,md,dy,ho,mi,se,po,da,ex,()),(e,()),())=v:=fun v h=>by rw[kB.f_eq];exact h
 rw[lA.f_eq];dsimp only;rcases bA2 z st du rc f iv ct un wk en mo we yd md dy ho mi se po da ex e hx hl l hn _ 0 rfl (kE2 _)with⟨j,a1,a2,a3,a4,a5⟩ | ⟨a1,a2⟩
 ·rw[hI _ a5];simp(disch:=omega)only[ss];refine zA2 z st du rc f iv ct un wk en mo we yd md dy ho mi se po da ex e hx hl l hn _ (j+1) j l rfl (by omega) (by omega) rfl ?_ rfl;rw[rK 0 a2,List.filter_append]
  have:(l.take j).filter (kI ex e)=l.take j:=List.filter_eq_self.2 fun x hx=>by obtain⟨q,h1,h2⟩:=fZ hx;rw[fF2]at h1;rw[←h2,oE2,List.getElem?_take_of_lt (by omega),←oE2];exact a4 q (by omega) (by omega)
  rw[this,fP1 a3,zE2]
 ·rw[hI _ a2];simp(disch:=omega)only[ss,lA.l1_eq]
  have:l.filter (kI ex e)=l:=List.filter_eq_self.2 fun x hx=>by obtain⟨q,h1,h2⟩:=fZ hx;rw[←h2];exact a1 q (by omega) h1
  rw[this]
theorem qC1 (y:List Int) (hy:y.length≤1000000):zE.f y=some (y.mergeSort fun x y=>decide (x≤y),()):=by rw[zE.f_sem];show(bif decide (List.length y≤eD)then some (y.mergeSort fun x y=>decide (x≤y),())else none)=_;rw[dp (by simp only[eD];omega),cond_true]
theorem mB1 (y:List Int) (hy:y.length≤1000000):mD.f y=some (y,()):=by rw[mD.f_sem];show(bif decide (List.length y≤eD)then some (y,())else none)=_;rw[dp (by simp only[eD];omega),cond_true]
theorem pF1 (y:List Int) (x:Int):x∈dds y↔x∈y:=by
 cases y with
 | nil=>exact Iff.rfl
 | cons a r=>
  show x∈a::dd a r↔_;rw[pE2,pE2];have:=fV1 r a x;exact⟨fun h=>(this.1 h.symm).symm,fun h=>(this.2 h.symm).symm⟩
theorem nD1 (y:List Int) (h:y.Pairwise (· ≤ ·)):Rise (dds y):=by
 cases y with
 | nil=>exact List.Pairwise.nil
 | cons a r=>exact yH1 r a h
theorem sB1 (y:List Int):(y.mergeSort fun x y=>decide (x≤y)).Pairwise (· ≤ ·):=
 (List.pairwise_mergeSort (le:=fun x y:Int=>decide (x≤y)) (fun a b c h1 h2=>by simp at *;omega) (fun a b=>by simp;omega) y).imp fun h=>of_decide_eq_true h
theorem cX :∀(l:List Int) (p:Int),(dd p l).length≤l.length
 | [],_=>rE2 _
 | a::l,p=>by unfold dd;have:=cX l a;split <;> simp <;> omega
theorem vG1 (y:List Int):(dds y).length≤y.length:=by
 cases y with
 | nil=>exact rE2 _
 | cons a r=>exact Nat.succ_le_succ (cX r a)
noncomputable def locL (l da ex:List Int) (e:Int):List Int:=(dds ((l++da).mergeSort fun x y=>decide (x≤y))).filter (kI ex e)
theorem iZ {l da ex:List Int} {e x:Int}:x∈locL l da ex e↔(x∈l∨x∈da)∧x∉ex∧x<e:=by unfold locL kI;rw[zF2,pF1,List.mem_mergeSort,xE2];simp
theorem jC1 (l da ex:List Int) (e:Int):Rise (locL l da ex e):=List.Pairwise.filter _ (nD1 _ (sB1 _))
noncomputable def locE (l da ex:List Int) (e:Int):Option (List Int×Int×Unit):=if((locL l da ex e).length:Int)>4096 then some ([],10,())else some (locL l da ex e,0,())
theorem qV (hx:Rise ex) (hl:ex.length≤1000000) (l:List Int) (h1:l.length≤400000) (h2:da.length≤400000):
  kD.l1 l (z,st,du,rc,(f,iv,ct,un,wk,en,mo,we,yd,md,dy,ho,mi,se,po,()),da,ex,()) e=locE l da ex e∧kD.l1a (z,st,du,rc,(f,iv,ct,un,wk,en,mo,we,yd,md,dy,ho,mi,se,po,()),da,ex,()) e l=locE l da ex e:=by
 have hlim:eD=17179869184:=rfl;have hs:=qC1 (l++da) (by rw[jE2];omega);have hc:=xC1 ((l++da).mergeSort fun x y=>decide (x≤y)) (by rw[List.length_mergeSort,jE2];omega);have hdl:=vG1 ((l++da).mergeSort fun x y=>decide (x≤y));rw[List.length_mergeSort,jE2]at hdl;have hd:=hU1 z st du rc f iv ct un wk en mo we yd md dy ho mi se po da ex e hx hl (dds ((l++da).mergeSort fun x y=>decide (x≤y))) (by omega);have hk:=mB1 l (by omega)
 have fin:(bif decide (((locL l da ex e).length:Int)>4096)then(some (([]:List Int),(10:Int),()))else(some (locL l da ex e,0,())))=locE l da ex e:=by
  unfold locE;by_cases c:((locL l da ex e).length:Int)>4096
  ·rw[dp c,if_pos c];rfl
  ·rw[dn c,if_neg c];rfl
 rw[kD.l1_eq,kD.l1a_eq,hk];dsimp only;simp only[hE2];rw[dp (by omega),cond_true,hs];simp only[hE2];rw[hc];simp only[hE2];rw[hd];exact⟨fin,fin⟩
end
end Go.GV.YtegmfagkklekaaaGreatDoor
