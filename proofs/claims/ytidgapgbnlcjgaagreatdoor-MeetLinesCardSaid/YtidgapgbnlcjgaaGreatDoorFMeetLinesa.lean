/-
Part of the words that MeetLines is proved with: no statement of its own, no conditions.
-/
import Derived.Test.YtidgapgbnlcjgaaGreatDoorY23
set_option linter.unusedVariables false
set_option linter.unusedSimpArgs false
namespace Go.GV.YtidgapgbnlcjgaaGreatDoor
open Go.Proofs
def badK :Nat→List Nat→Bool
 | _,[]=>false
 | nx,k::r=>if(2≤nx∧nx≤k)∨k=nx then badK (k+1) r else true
def nB2 (s:List UInt8) (k:Nat):Prop:=k<5 ∧ ∃v,s=Fr k++v
def lR :List (List UInt8)→List Nat→Prop
 | [],[]=>True
 | s::X,k::ks=>nB2 s k∧lR X ks
 | [],_::_=>False
 | _::_,[]=>False
theorem sJ :∀{X:List (List UInt8)} {ks:List Nat},lR X ks→X.length=ks.length
 | [],[],_=>rfl
 | _::X,_::ks,h=>by rw[kM2,kM2,sJ h.2]
 | [],_::_,h=>h.elim
 | _::_,[],h=>h.elim
theorem fX :∀{X:List (List UInt8)} {ks:List Nat} (i:Nat),lR X ks→i<X.length→nB2 (X.getD i []) (ks.getD i 0)
 | [],[],_,_,h=>by cases h
 | _::_,_::_,0,h,_=>h.1
 | _::X,_::ks,i+1,h,hi=>fX (X:=X) (ks:=ks) i h.2 (by simpa using hi)
 | [],_::_,_,h,_=>h.elim
 | _::_,[],_,h,_=>h.elim
theorem iX :∀{X:List (List UInt8)} {ks:List Nat} (i:Nat) {s:List UInt8} {c:Nat},lR X ks→nB2 s c→lR (X.set i s) (ks.set i c)
 | [],[],_,_,_,_,_=>trivial
 | _::_,_::_,0,_,_,h,g=>⟨g,h.2⟩
 | _::X,_::ks,i+1,_,_,h,g=>⟨h.1,iX (X:=X) (ks:=ks) i h.2 g⟩
 | [],_::_,_,_,_,h,_=>h.elim
 | _::_,[],_,_,_,h,_=>h.elim
theorem lH2 (X:List (List UInt8)) (hX:X.length≤10000) (hs:∀s∈X,s.length≤4096):∀(Y:List (List UInt8)) (ks:List Nat) (i nx:Nat) (y:Mt),X.drop i=Y→lR Y ks→i≤X.length→nx≤5→iF y→badK nx ks=true →
  ∃j,QA (X.map mkS) (nx:Int) (i:Int) y=bad9 j:=by
 intro Y
 induction Y with
 | nil=>
  intro ks i nx y _ hk _ _ _ hb
  cases ks with
  | nil=>cases hb
  | cons _ _=>exact hk.elim
 | cons s Y ih=>
  intro ks i nx y hd hk hi hx hy hb
  cases ks with
  | nil=>exact hk.elim
  | cons k r=>
  obtain⟨⟨hk5,v,rfl⟩,hk2⟩:=hk;have hlt:i<X.length:=by have:=congrArg List.length hd;rw[aN2,kM2]at this;omega
  have hm:(X.map mkS).length=X.length:=hM2 ..;rw[nC [] hlt]at hd;injection hd with hd1 hd2;have hg:(X.map mkS).getD i ByteArray.empty=mkS (Fr k++v):=by rw[dM2,uN2,←hd1,dM2,nM2 hlt];rfl
  have hsl:(Fr k++v).length≤4096:=by have:=hs _ (sC [] hlt);rw[hd1]at this;exact this
  rw[uP1 _ (Fr k++v) nx i y (by omega) hg];have up:∀(d a:Nat),k-a=d→2≤a→a≤k→QB (X.map mkS) (mkS (Fr k++v)) (a:Int) (i:Int) y=QB (X.map mkS) (mkS (Fr k++v)) (k:Int) (i:Int) y:=by
   intro d
   induction d with
   | zero=>
    intro a h1 h2 h3;have:a=k:=by omega
    rw[this]
   | succ d ihd=>
    intro a h1 h2 h3;rw[lQ1 _ _ a i y (by omega) h2 (bJ1 a k (by omega) hk5 (by omega) v)];exact ihd (a+1) (by omega) (by omega) (by omega)
  have over:∀(d a:Nat),5-a=d→2≤a→k<a→a≤5→QB (X.map mkS) (mkS (Fr k++v)) (a:Int) (i:Int) y=bad9 i:=by
   intro d
   induction d with
   | zero=>
    intro a h1 h2 h3 h4;have:a=5:=by omega
    subst this;exact kS1 _ _ i y
   | succ d ihd=>
    intro a h1 h2 h3 h4;rw[lQ1 _ _ a i y (by omega) h2 (bJ1 a k (by omega) hk5 (by omega) v)];exact ihd (a+1) (by omega) (by omega) (by omega) (by omega)
  unfold badK at hb;by_cases c:(2≤nx∧nx≤k)∨k=nx
  ·rw[if_pos c]at hb;have e:QB (X.map mkS) (mkS (Fr k++v)) (nx:Int) (i:Int) y=QB (X.map mkS) (mkS (Fr k++v)) (k:Int) (i:Int) y:=by
    rcases c with⟨c1,c2⟩ | rfl
    ·exact up _ nx rfl c1 c2
    ·rfl
   obtain⟨b,m',h1,h2⟩:=rK y k v hk5 (by rw[cM2]at hsl;omega) hy;rw[e,gB1 _ _ k i y hk5 (by omega) (pN k v),vN2,h1];simp only[eM2];unfold QC
   cases b with
   | false=>exact⟨_,rfl⟩
   | true=>exact ih r (i+1) (k+1) m' hd2 hk2 (by omega) (by omega) h2 hb
  ·by_cases c2:2≤nx
   ·exact⟨_,over _ nx rfl c2 (by omega) hx⟩
   ·rw[mX _ _ nx i y (by omega) (bJ1 nx k (by omega) hk5 (by omega) v)];exact⟨_,rfl⟩
def jl (s:List UInt8):Nat:=(xG s.length 75 s).length
theorem kH (s:List UInt8) (X:List (List UInt8)):(rD (s::X)).length=jl s+(rD X).length:=by unfold rD jl;rw[List.flatMap_cons,cM2]
theorem iP :∀(X:List (List UInt8)),totF X+X.length≤(rD X).length
 | []=>iM2 _
 | s::X=>by have h1:=iP X;have h2:=gM1 s.length 75 s;rw[kH,pJ,kM2];unfold jl;omega
theorem zA1 {X:List (List UInt8)} {s:List UInt8} (h:s∈X):s.length≤(rD X).length:=by have h1:=fS h;have h2:=iP X;omega
theorem uS :∀(X:List (List UInt8)) (i:Nat) (s:List UInt8),i<X.length→(rD (X.set i s)).length+jl (X.getD i [])=(rD X).length+jl s
 | [],i,s,h=>by cases h
 | a::X,0,s,_=>by show(rD (s::X)).length+jl a=_;rw[kH,kH];omega
 | a::X,i+1,s,h=>by have:=uS X i s (by simpa using h);show(rD (a::X.set i s)).length+jl (X.getD i [])=_;rw[kH,kH];omega
theorem cV :∀(X:List (List UInt8)) (i:Nat),(rD (X.eraseIdx i)).length≤(rD X).length
 | [],_=>oM2 _
 | a::X,0=>by show(rD X).length≤_;rw[kH];omega
 | a::X,i+1=>by have:=cV X i;show(rD (a::X.eraseIdx i)).length≤_;rw[kH,kH];omega
theorem dH2 {X:List (List UInt8)} (h:X.all mayB=true):∀s∈X,mayB s=true:=fun s hs=>dN2.1 h s hs
theorem qC2 {X Y:List (List UInt8)} (h:X.all mayB=true) (g:∀s∈Y,s∈X):Y.all mayB=true:=dN2.2 fun s hs=>dH2 h s (g s hs)
theorem tZ (X:List (List UInt8)) (h:X.all mayB=true) (hl:(rD X).length≤4096) (ks:List Nat) (hk:lR X ks) (hb:badK 0 ks=true):∃j,kA.f (I (rD X))=bad9 j:=by
 rw[kA.f_eq,yL X h hl];have ht:=iP X;have hs:∀s∈X,s.length≤4096:=fun s hs=>by have:=zA1 hs;omega
 simp(disch:=omega)only[ss]
 cases X with
 | nil=>
  cases ks with
  | nil=>cases hb
  | cons _ _=>exact hk.elim
 | cons s X=>
  cases ks with
  | nil=>exact hk.elim
  | cons k r=>
  obtain⟨⟨hk5,v,rfl⟩,hk2⟩:=hk;rw[wT (((Fr k++v)::X).map mkS) (Fr k++v) (by simp) rfl];unfold badK at hb;by_cases c:k=0
  ·subst c;rw[if_pos (.inr rfl)]at hb;have hsl:=hs (Fr 0++v) (by simp);obtain⟨b,m',h1,h2⟩:=rK zM 0 v (by omega) (by rw[cM2]at hsl;omega) ⟨cP,iM2 _,iM2 _⟩;rw[tM2]at h1;rw[show pf F0 (Fr 0++v)=true from pN 0 v,cond_true,show(Fr 0++v).drop F0.length=v from vN2 (l₁:=F0),h1];simp only[eM2];unfold QC
   cases b with
   | false=>exact⟨_,rfl⟩
   | true=>exact lH2 ((Fr 0++v)::X) (by simp only[kM2]at ht ⊢;omega) hs X r 1 1 m' rfl hk2 (by simp) (by omega) h2 hb
  ·rw[show pf F0 (Fr k++v)=false from bJ1 0 k (by omega) hk5 (by omega) v,cond_false];exact⟨_,rfl⟩
theorem pP1 (m:Mt) (hs:iF m) (hM:mayM m) (k:Nat) (h2:2≤k) (hk:k<(yB m).length):∃m',iF m'∧mayM m'∧yB m'=(yB m).eraseIdx k:=by
 have hl5:=(xR m hs hM).1;obtain⟨z,st,du,rc,r,da,ex,⟨⟩⟩:=m;obtain⟨s1,s2,s3⟩:=hs;obtain⟨m1,m2,m3,m4,m5,m6,m7,m8,m9⟩:=hM;dsimp only at s1 s2 s3 m1 m2 m3 m4 m5 m6 m7 m8 m9;have d0:pP []:=⟨fun j hj=>absurd hj (by simp),by simp⟩
 have A:iF (z,st,du,false,zR,da,ex,())∧mayM (z,st,du,false,zR,da,ex,()):=⟨⟨cP,s2,s3⟩,m1,m2,m3,m4,m5,m6,m7,(fun e=>by cases e),fun _=>rfl⟩
 have Bm:iF (z,st,du,rc,r,[],ex,())∧mayM (z,st,du,rc,r,[],ex,()):=⟨⟨s1,iM2 _,s3⟩,m1,m2,m3,m4,m5,d0,m7,m8,m9⟩
 have C:iF (z,st,du,rc,r,da,[],())∧mayM (z,st,du,rc,r,da,[],()):=⟨⟨s1,s2,iM2 _⟩,m1,m2,m3,m4,m5,m6,d0,m8,m9⟩
 have hv:∀a:Int×Bool×Rl×List Int×List Int×Unit,v0 (z,st,a)=v0 (z,st,du,rc,r,da,ex,()):=fun a=>rfl
 have hkk:k=2∨k=3∨k=4:=by omega
 cases rc with
 | true=>
  by_cases hd:0<da.length
  ·by_cases he:0<ex.length
   ·rcases hkk with rfl | rfl | rfl
    ·exact⟨_,A.1,A.2,by unfold yB;simp[optL,hd,he,hv]⟩
    ·exact⟨_,Bm.1,Bm.2,by unfold yB;simp[optL,hd,he,hv]⟩
    ·exact⟨_,C.1,C.2,by unfold yB;simp[optL,hd,he,hv]⟩
   ·rcases hkk with rfl | rfl | rfl
    ·exact⟨_,A.1,A.2,by unfold yB;simp[optL,hd,he,hv]⟩
    ·exact⟨_,Bm.1,Bm.2,by unfold yB;simp[optL,hd,he,hv]⟩
    ·unfold yB at hk;simp[optL,hd,he]at hk
  ·by_cases he:0<ex.length
   ·rcases hkk with rfl | rfl | rfl
    ·exact⟨_,A.1,A.2,by unfold yB;simp[optL,hd,he,hv]⟩
    ·exact⟨_,C.1,C.2,by unfold yB;simp[optL,hd,he,hv]⟩
    ·unfold yB at hk;simp[optL,hd,he]at hk
   ·rcases hkk with rfl | rfl | rfl
    ·exact⟨_,A.1,A.2,by unfold yB;simp[optL,hd,he,hv]⟩
    ·unfold yB at hk;simp[optL,hd,he]at hk
    ·unfold yB at hk;simp[optL,hd,he]at hk
 | false=>
  by_cases hd:0<da.length
  ·by_cases he:0<ex.length
   ·rcases hkk with rfl | rfl | rfl
    ·exact⟨_,Bm.1,Bm.2,by unfold yB;simp[optL,hd,he,hv]⟩
    ·exact⟨_,C.1,C.2,by unfold yB;simp[optL,hd,he,hv]⟩
    ·unfold yB at hk;simp[optL,hd,he]at hk
   ·rcases hkk with rfl | rfl | rfl
    ·exact⟨_,Bm.1,Bm.2,by unfold yB;simp[optL,hd,he,hv]⟩
    ·unfold yB at hk;simp[optL,hd,he]at hk
    ·unfold yB at hk;simp[optL,hd,he]at hk
  ·by_cases he:0<ex.length
   ·rcases hkk with rfl | rfl | rfl
    ·exact⟨_,C.1,C.2,by unfold yB;simp[optL,hd,he,hv]⟩
    ·unfold yB at hk;simp[optL,hd,he]at hk
    ·unfold yB at hk;simp[optL,hd,he]at hk
   ·unfold yB at hk;simp[optL,hd,he]at hk;omega
def optK (b:Bool) (k:Nat):List Nat:=bif b then [k]else []
def cO (a b c:Bool):List Nat:=[0,1]++optK a 2++optK b 3++optK c 4
theorem vR :∀{X Y:List (List UInt8)} {ks ls:List Nat},lR X ks→lR Y ls→lR (X++Y) (ks++ls)
 | [],_,[],_,_,h=>h
 | _::X,_,_::ks,_,h,g=>⟨h.1,vR (X:=X) (ks:=ks) h.2 g⟩
 | [],_,_::_,_,h,_=>h.elim
 | _::_,_,[],_,h,_=>h.elim
theorem yY (b:Bool) (k:Nat) (hk:k<5) (v:List UInt8):lR (optL b (Fr k++v)) (optK b k):=by
 cases b with
 | false=>exact trivial
 | true=>exact⟨⟨hk,v,rfl⟩,trivial⟩
theorem pZ1 (m:Mt):∃a b c,lR (yB m) (cO a b c):=by refine⟨m.2.2.2.1,decide (0<m.2.2.2.2.2.1.length),decide (0<m.2.2.2.2.2.2.1.length),?_⟩;unfold yB cO;refine vR (vR (vR ?_ (yY _ 2 (by omega) _)) (yY _ 3 (by omega) _)) (yY _ 4 (by omega) _);exact⟨⟨by omega,_,rfl⟩,⟨by omega,_,rfl⟩,trivial⟩
theorem vB2 :∀a b c:Bool,∀k,k<(cO a b c).length → ∀i,i<k→badK 0 (((cO a b c).set i ((cO a b c).getD k 0)).set k ((cO a b c).getD i 0))=true:=by intro a b c;cases a <;> cases b <;> cases c <;> decide
theorem pA2 :∀a b c:Bool,(cO a b c).eraseIdx 1=[0]∨badK 0 ((cO a b c).eraseIdx 1)=true:=by intro a b c;cases a <;> cases b <;> cases c <;> decide
theorem pX :∀{X:List (List UInt8)} {ks:List Nat} (i:Nat),lR X ks→lR (X.eraseIdx i) (ks.eraseIdx i)
 | [],[],_,_=>trivial
 | _::_,_::_,0,h=>h.2
 | _::X,_::ks,i+1,h=>⟨h.1,pX (X:=X) (ks:=ks) i h.2⟩
 | [],_::_,_,h=>h.elim
 | _::_,[],_,h=>h.elim
theorem vU1 {X:List (List UInt8)} {i:Nat} {s x:List UInt8} (h:x∈X.set i s):x∈X∨x=s:=List.mem_or_eq_of_mem_set h
theorem eX1 {X:List (List UInt8)} {i:Nat} {x:List UInt8} (h:x∈X.eraseIdx i):x∈X:=List.mem_of_mem_eraseIdx h
theorem oR1 (s:List UInt8) (h:[s].all mayB=true) (hl:(rD [s]).length≤4096) (hk:nB2 s 0):∃q a e,kA.f (I (rD [s]))=some (q,a,e,()) ∧ ¬e=0:=by
 obtain⟨_,v,rfl⟩:=hk;rw[kA.f_eq,yL _ h hl];have hsl:=zA1 (show Fr 0++v∈[Fr 0++v] by simp);obtain⟨b,m',h1,h2⟩:=rK zM 0 v (by omega) (by rw[cM2]at hsl;omega) ⟨cP,iM2 _,iM2 _⟩;rw[tM2]at h1;simp(disch:=omega)only[ss];rw[wT ([Fr 0++v].map mkS) (Fr 0++v) (by simp) rfl,show pf F0 (Fr 0++v)=true from pN 0 v,cond_true,show(Fr 0++v).drop F0.length=v from vN2 (l₁:=F0),h1];simp only[eM2];unfold QC
 cases b with
 | false=>exact⟨_,_,_,rfl,by omega⟩
 | true=>
  have:=uG1 ([Fr 0++v].map mkS) 1 m';rw[if_pos (oM2 _)]at this;exact⟨_,_,_,this,by omega⟩
theorem sB1 (X:List (List UInt8)) (h:X.all mayB=true) (hl:(rD X).length≤4096) (hn:X.length≤300):mB.f (X.map mkS)=some (I (rD X),0,()):=by have ht:=iP X;rw[(yM1 X hn (by omega))];unfold rK1;rw[if_pos h,if_neg (by omega)]
theorem oZ1 (L:List (List UInt8)) (hL:L.length≤1000) (i k:Nat) (hi:i<k) (hk:k<L.length):
  wA.l2 (i:Int) (k:Int) (L.map mkS) 0 []=wA.l2 (i:Int) (k:Int) (L.map mkS) (L.length:Int) ((L.eraseIdx k).map mkS):=by
 have hlim:wC=17179869184:=rfl;have hm:(L.map mkS).length=L.length:=hM2 ..
 have:=eH (fun n=>wA.l2 (i:Int) (k:Int) (L.map mkS) (n:Int) (((L.take n).eraseIdx k).map mkS)) (iM2 L.length) fun n _ hn=>by
  have hg:(L.map mkS).getD n ByteArray.empty=mkS (L.getD n []):=by rw[dM2,uN2,dM2,nM2 hn];rfl
  have htl:(L.take n).length=n:=by rw[sM2];omega
  have hel:((L.take n).eraseIdx k).length≤n:=by have:=List.length_eraseIdx_le (L.take n) k;omega
  show wA.l2 (i:Int) (k:Int) (L.map mkS) (n:Int) (((L.take n).eraseIdx k).map mkS)=wA.l2 (i:Int) (k:Int) (L.map mkS) ((n+1:Nat):Int) (((L.take (n+1)).eraseIdx k).map mkS);rw[wA.l2_eq];have hml:(((L.take n).eraseIdx k).map mkS).length=((L.take n).eraseIdx k).length:=hM2 ..;by_cases c:n=k
  ·subst c;have e1:(L.take n).eraseIdx n=L.take n:=List.eraseIdx_of_length_le (by omega);have e2:(L.take (n+1)).eraseIdx n=L.take n:=by rw[kE [] hn,List.eraseIdx_append_of_length_le (by omega),htl,Nat.sub_self];simp
   rw[e1,e2];simp(disch:=omega)only[ss,hm];rfl
  ·have e:(L.take (n+1)).eraseIdx k=(L.take n).eraseIdx k++[L.getD n []]:=by
    rw[kE [] hn];by_cases c2:k<n
    ·rw[List.eraseIdx_append_of_lt_length (by omega)]
    ·rw[List.eraseIdx_of_length_le (by simp;omega),List.eraseIdx_of_length_le (by omega)]
   rw[e,uM2];simp(disch:=omega)only[ss,hm,hg,hml,gM2,hlim];rfl
 have h0:wA.l2 (i:Int) (k:Int) (L.map mkS) ((0:Nat):Int) (((L.take 0).eraseIdx k).map mkS)=wA.l2 (i:Int) (k:Int) (L.map mkS) (L.length:Int) (((L.take L.length).eraseIdx k).map mkS):=this;rw[fO2]at h0;simpa using h0
theorem jT1 (L:List (List UInt8)) (hL:L.length≤1000) (i k:Nat) (hi:i<k) (hk:k<L.length) (a b:List Int) (e1 e2:Int) (q1 q2:Mt) (p1 p2 g1 g2:Int)
  (hx:mB.f ((L.eraseIdx k).map mkS)=some (a,e1,())) (hy:mB.f (((L.set i (L.getD k [])).set k (L.getD i [])).map mkS)=some (b,e2,()))
  (ha:kA.f a=some (q1,p1,g1,())) (hb:kA.f b=some (q2,p2,g2,())) (h1:g1=0↔1<k) (h2:g2=4):
  wA.l2 (i:Int) (k:Int) (L.map mkS) 0 []=some (true,()):=by
 have hlim:wC=17179869184:=rfl;have hm:(L.map mkS).length=L.length:=hM2 ..
 have hg:∀n,n<L.length→(L.map mkS).getD n ByteArray.empty=mkS (L.getD n []):=fun n hn=>by rw[dM2,uN2,dM2,nM2 hn];rfl
 have hst:(((L.map mkS).set i (mkS (L.getD k []))).set k (mkS (L.getD i [])))=((L.set i (L.getD k [])).set k (L.getD i [])).map mkS:=by rw[List.map_set,List.map_set]
 rw[oZ1 L hL i k hi hk,wA.l2_eq];simp only[lN2];simp(disch:=omega)only[ss,hm,xM2,hlim,rO2,hg i (by omega),hg k hk,hst,hx,hy,ha,hb,yK];by_cases c:1<k
 ·rw[dp (h1.2 c),dp (show(k:Int)>1 by omega)];rfl
 ·rw[dn (fun q=>c (h1.1 q)),dn (show ¬(k:Int)>1 by omega)];rfl
theorem cA1 (m:Mt) (i k:Int):wA.f m i k=some (true,()):=by
 have l1t:∀(X:List ByteArray),wA.l1 i k X 0 true=some (true,()):=fun X=>by rw[wA.l1_eq,cond_true,yK];rfl
 obtain⟨b,hb,hsm⟩:=aH2 m;rw[wA.f_eq,yK,hb];simp only[eM2,oN2,cond_false]
 cases b with
 | false=>rfl
 | true=>
  have hs:=hsm rfl;rw[oN2,cond_false];rcases cB1 m hs with⟨hM,hl,hp⟩ | ⟨e1,hp,q1⟩
  ·rw[hp];have hmay:=pY m hs hM;simp only[eM2,decide_true,oN2,cond_false];rw[yL _ hmay hl];simp only[eM2,decide_true,oN2,cond_false];have hm:((yB m).map mkS).length=(yB m).length:=hM2 ..;have hl5:=(xR m hs hM).1;rw[hm];by_cases c1:((yB m).length:Int)<2
   ·rw[dp c1,cond_true,l1t]
   rw[dn c1,cond_false];by_cases c2:i<0
   ·rw[dp c2,cond_true,l1t]
   rw[dn c2,cond_false];by_cases c3:i≥k
   ·rw[dp c3,cond_true,l1t]
   rw[dn c3,cond_false];by_cases c4:k≥((yB m).length:Int)
   ·rw[dp c4,l1t]
   rw[dn c4,wA.l1_eq,cond_false];obtain⟨a,rfl⟩:=gN2 (show 0≤i by omega);obtain⟨n,rfl⟩:=gN2 (show 0≤k by omega);obtain⟨ka,kb,kc,hK⟩:=pZ1 m;have hKl:=sJ hK;have hin:a<n:=by omega
   have hnl:n<(yB m).length:=by omega
   have hi1:=uS (yB m) a ((yB m).getD n []) (by omega);have hi2:=uS ((yB m).set a ((yB m).getD n [])) n ((yB m).getD a []) (by rw[rO2];omega);have hgn:((yB m).set a ((yB m).getD n [])).getD n []=(yB m).getD n []:=by rw[dM2,List.getElem?_set_ne (by omega),←dM2]
   rw[hgn]at hi2
   have hTm:(((yB m).set a ((yB m).getD n [])).set n ((yB m).getD a [])).all mayB=true:=qC2 hmay fun s h=>by
    rcases vU1 h with h | rfl
    ·rcases vU1 h with h | rfl
     ·exact h
     ·exact sC [] hnl
    ·exact sC [] (by omega)
   have hTl:(rD (((yB m).set a ((yB m).getD n [])).set n ((yB m).getD a []))).length≤4096:=by omega
   have hTk:=iX n (iX a hK (fX n hK hnl)) (fX a hK (by omega));obtain⟨j,hT⟩:=tZ _ hTm hTl _ hTk (vB2 ka kb kc n (by omega) a hin);have hTj:=sB1 _ hTm hTl (by rw[rO2,rO2];omega);have hEm:((yB m).eraseIdx n).all mayB=true:=qC2 hmay fun s h=>eX1 h
   have hEl:(rD ((yB m).eraseIdx n)).length≤4096:=cP2 (cV _ _) hl;have hEj:=sB1 _ hEm hEl (by have:=List.length_eraseIdx_le (yB m) n;omega);have hE:∃q p g,kA.f (I (rD ((yB m).eraseIdx n)))=some (q,p,g,())∧(g=0↔1<n):=by
    by_cases c:2≤n
    ·obtain⟨m',g1,g2,g3⟩:=pP1 m hs hM n c hnl;rw[←g3]at hEl ⊢;exact⟨_,_,_,rH1 m' g1 g2 hEl,by omega⟩
    ·have hn1:n=1:=by omega
     subst hn1;have hEk:=pX 1 hK;rcases pA2 ka kb kc with h | h
     ·rw[h]at hEk;have hlen:=sJ hEk
      match hX:(yB m).eraseIdx 1,hEk with
      | [s],hEk=>
       rw[hX]at hEm hEl;obtain⟨q,p,g,g1,g2⟩:=oR1 s hEm hEl hEk.1;exact⟨q,p,g,g1,by omega⟩
     ·obtain⟨j2,h2⟩:=tZ _ hEm hEl _ hEk h;exact⟨_,_,_,h2,by omega⟩
   obtain⟨q,p,g,g1,g2⟩:=hE;exact jT1 (yB m) (by omega) a n hin hnl _ _ _ _ _ _ _ _ _ _ hEj hTj g1 hT g2 rfl
  ·rw[hp];have hne:¬e1=0:=by omega
   simp only[eM2];rw[dn hne];rfl
end Go.GV.YtidgapgbnlcjgaaGreatDoor
