/-
Part of the words that ExpandLists is proved with: no statement of its own, no conditions.
-/
import Derived.Test.YtegmfagkklekaaaGreatDoorFExpandListsp
set_option linter.unusedVariables false
set_option linter.unusedSimpArgs false
namespace Go.GV.YtegmfagkklekaaaGreatDoor
open Go.Proofs
def isIv (f w:Int) (we:List Int) (n A B:Int):Prop:=
 (f=1∧we=[] ∧ ∃y,1≤y∧y≤9999∧fst_ y≤n∧n<fst_ (y+1)∧A=fst_ y∧B=fst_ (y+1)-1) ∨
 (f=1∧we≠[] ∧ ∃Y,0≤Y∧Y≤10000∧w1 Y w≤n∧n<w1 (Y+1) w∧A=(if w1 Y w < -719162 then -719162 else w1 Y w)∧B=(if w1 (Y+1) w-1>2932896 then 2932896 else w1 (Y+1) w-1)) ∨
 (f=2 ∧ ∃y m,1≤y∧y≤9999∧1≤m∧m≤12∧fst_ y+cum y m≤n∧n<fst_ y+cum y (m+1)∧A=fst_ y+cum y m∧B=fst_ y+cum y (m+1)-1) ∨
 (f=3∧A=(if n-(n+3-w)%7 < -719162 then -719162 else n-(n+3-w)%7)∧B=(if n-(n+3-w)%7+6>2932896 then 2932896 else n-(n+3-w)%7+6)) ∨
 (f=4∧A=n∧B=n)
theorem iT1 {f w:Int} {we:List Int} {n A B:Int} (h:isIv f w we n A B) (hn: -719162≤n∧n≤2932896):A≤n∧n≤B ∧ -719162≤A∧B≤2932896:=by
 rcases h with⟨_,_,y,h1,h2,h3,h4,rfl,rfl⟩ | ⟨_,_,Y,h1,h2,h3,h4,rfl,rfl⟩ | ⟨_,y,m,h1,h2,h3,h4,h5,h6,rfl,rfl⟩ | ⟨_,rfl,rfl⟩ | ⟨_,rfl,rfl⟩
 ·have a:=nD (a:=1) (b:=y) (by omega) h1;have b:=nD (a:=y+1) (b:=10000) (by omega) (by omega);rw[cZ]at a;rw[pG]at b;omega
 ·split <;> split <;> omega
 ·have a:=nD (a:=1) (b:=y) (by omega) h1;have b:=nD (a:=y+1) (b:=10000) (by omega) (by omega);have c:=dG y h1;have d:=zL y (a:=m+1) (b:=13) (by omega) (by omega) (by omega);have e:=zM y m;rw[cZ]at a;rw[pG]at b;omega
 ·split <;> split <;> omega
 ·omega
theorem kJ1 {f w:Int} {we:List Int} {n k A B x k':Int} (h:isIv f w we n A B) (hn:cF1 f w we n k) (hx:cF1 f w we x k') (hr: -719162≤x∧x≤2932896):
  (A≤x∧x≤B→k'=k)∧(x=A-1→k'=k-1)∧(x=B+1→k'=k+1):=by
 rcases h with⟨f1,e1,y,h1,h2,h3,h4,rfl,rfl⟩ | ⟨f1,e1,Y,h1,h2,h3,h4,hA,hB⟩ | ⟨f1,y,m,h1,h2,h3,h4,h5,h6,rfl,rfl⟩ | ⟨f1,hA,hB⟩ | ⟨f1,rfl,rfl⟩ <;>
  rcases hn with⟨f2,e2,m1,d1,g⟩ | ⟨f2,e2,g0,j1,g⟩ | ⟨f2,y1,m1,d1,g,rfl⟩ | ⟨f2,rfl⟩ | ⟨f2,rfl⟩ <;> first | omega | (exact absurd e1 e2) | (exact absurd e2 e1) | skip <;>
  rcases hx with⟨f3,e3,m2,d2,q⟩ | ⟨f3,e3,q0,j2,q⟩ | ⟨f3,y2,m2,d2,q,rfl⟩ | ⟨f3,rfl⟩ | ⟨f3,rfl⟩ <;> first | omega | (exact absurd e1 e3) | (exact absurd e3 e1) | skip
 ·-- years
  obtain⟨a1,a2,_⟩:=wE g;obtain⟨b1,b2,_⟩:=wE q;obtain⟨v1,v1',_⟩:=pC.1 g.1;obtain⟨v2,v2',_⟩:=pC.1 q.1;have ek:k=y:=aN v1 h1 a1 a2 h3 h4;subst ek;refine⟨fun r=>aN v2 v1 b1 b2 r.1 (by omega),fun r=>?_,fun r=>?_⟩
  ·have s:=wG (k-1) (by omega);rw[show k-1+1=k by omega]at s;rcases Int.lt_or_le 1 k with c | c
   ·exact aN v2 (by omega) b1 b2 (by omega) (by rw[show k-1+1=k by omega];omega)
   ·have:k=1:=by omega
    subst this;have:=cZ;omega
  ·have s:=wG (k+1) (by omega);exact aN v2 (by omega) b1 b2 (by omega) (by omega)
 ·-- years by weeks
  obtain⟨a1,a2,_⟩:=g;obtain⟨b1,b2,_⟩:=q;have ek:k=Y:=(jJ (n:=n) (w:=w) (k:=(n-w1 k w)/7+1) (k':=(n-w1 Y w)/7+1) g0 h1 ⟨a1,a2,rfl⟩ ⟨h3,h4,rfl⟩).1;subst ek;have uq:∀z,0≤z→w1 z w≤x→x<w1 (z+1) w→k'=z:=fun z z0 z1 z2=>(jJ (n:=x) (w:=w) (k:=(x-w1 k' w)/7+1) (k':=(x-w1 z w)/7+1) q0 z0 ⟨b1,b2,rfl⟩ ⟨z1,z2,rfl⟩).1
  have n0:=xH k w;have n1:=xH (k+1) w;refine⟨fun r=>uq k g0 ?_ ?_,fun r=>?_,fun r=>?_⟩
  ·rw[hA]at r;split at r <;> omega
  ·rw[hB]at r;obtain⟨_,r⟩:=r;split at r <;> omega
  ·rw[hA]at r;split at r
   ·omega
   ·rcases Int.lt_or_le 0 k with c | c
    ·have s:=gL (k-1) w (by omega);rw[show k-1+1=k by omega]at s;exact uq (k-1) (by omega) (by omega) (by rw[show k-1+1=k by omega];omega)
    ·have:k=0:=by omega
     subst this;have f0:fst_ 0 = -719528:=by decide
     omega
  ·rw[hB]at r;split at r
   ·omega
   ·have s:=gL (k+1) w (by omega);exact uq (k+1) (by omega) (by omega) (by omega)
 ·-- months
  obtain⟨a1,a2,a3,a4,_⟩:=wE g;obtain⟨b1,b2,b3,b4,_⟩:=wE q;obtain⟨v1,v1',v1a,v1b⟩:=pC.1 g.1;obtain⟨v2,v2',v2a,v2b⟩:=pC.1 q.1;have c1:=zE y1 m1 a3 a4;have c2:=zE y2 m2 b3 b4;have g2:=g.2;have q2:=q.2
  have uq:∀(z u n' m' d' y':Int),uG n' y' m' d'→1≤z→z≤9999→1≤u→u≤12→fst_ z+cum z u≤n'→n'<fst_ z+cum z (u+1)→y'=z∧m'=u:=fun z u n' m' d' y' hd z1 z2 u1 u2 r1 r2=>by
   have hb:=zE z u u1 u2;have hu:uG n' z u (n'-fst_ z-cum z u+1):=⟨pC.2 ⟨z1,z2,by omega,by omega⟩,by omega⟩
   obtain⟨e1,e2,_⟩:=jL hd hu;exact⟨e1,e2⟩
  obtain⟨ey,em⟩:=uq y m n m1 d1 y1 g h1 h2 h3 h4 h5 h6;subst ey em;refine⟨fun r=>?_,fun r=>?_,fun r=>?_⟩
  ·obtain⟨e3,e4⟩:=uq y1 m1 x m2 d2 y2 q h1 h2 h3 h4 r.1 (by omega);rw[e3,e4]
  ·by_cases cm:m1=1
   ·subst cm;have c0:=wE1 y1;have s:=wG (y1-1) (by omega);rw[show y1-1+1=y1 by omega]at s;rcases Int.lt_or_le 1 y1 with cy | cy
    ·have s':=dG (y1-1) (by omega);rw[show y1-1+1=y1 by omega]at s';have h13:=zE (y1-1) 12 (by omega) (by omega);have hl:=gK (y1-1) 12;have hl2:mlen (y1-1) 12=31:=by unfold mlen;simp
     obtain⟨e3,e4⟩:=uq (y1-1) 12 x m2 d2 y2 q (by omega) (by omega) (by omega) (by omega) (by rw[show(12:Int)+1=13 from rfl]at h13;omega) (by rw[show(12:Int)+1=13 from rfl];omega);rw[e3,e4];omega
    ·have:y1=1:=by omega
     subst this;have:=cZ;omega
   ·have hs:=zE y1 (m1-1) (by omega) (by omega);rw[show m1-1+1=m1 by omega]at hs;have hl:28≤mlen y1 (m1-1):=by
     unfold mlen;split
     ·split <;> omega
     ·split
      ·omega
      ·rw[if_pos ⟨by omega,by omega⟩];omega
    obtain⟨e3,e4⟩:=uq y1 (m1-1) x m2 d2 y2 q (by omega) (by omega) (by omega) (by omega) (by omega) (by rw[show m1-1+1=m1 by omega];omega);rw[e3,e4];omega
  ·by_cases cm:m1=12
   ·subst cm;have s':=dG y1 (by omega);have c0:=wE1 (y1+1);have c3:=zE (y1+1) 1 (by omega) (by omega);have hl2:mlen (y1+1) 1=31:=by unfold mlen;simp
    rw[show(12:Int)+1=13 from rfl]at r;have b9:=nD (a:=y1+1) (b:=10000) (by omega) (by omega);rw[pG]at b9;rcases Int.lt_or_le y1 9999 with cy | cy
    ·obtain⟨e3,e4⟩:=uq (y1+1) 1 x m2 d2 y2 q (by omega) (by omega) (by omega) (by omega) (by omega) (by omega);rw[e3,e4];omega
    ·have:y1=9999:=by omega
     subst this;have:fst_ (9999+1)=2932897:=pG;omega
   ·have hs:=zE y1 (m1+1) (by omega) (by omega);have hl:28≤mlen y1 (m1+1):=by
     unfold mlen;split
     ·split <;> omega
     ·split
      ·omega
      ·rw[if_pos ⟨by omega,by omega⟩];omega
    obtain⟨e3,e4⟩:=uq y1 (m1+1) x m2 d2 y2 q (by omega) (by omega) (by omega) (by omega) (by omega) (by omega);rw[e3,e4];omega
theorem jan1 (y:Int) (h1:1≤y) (h2:y≤9999):mH.f y 1 1=some (fst_ y,0,()):=by
 have hv:lN y 1 1=true:=pC.2 ⟨h1,h2,by omega,by unfold mlen;simp⟩;have:=wE1 y;have e:fst_ y+1-1+cum y 1=fst_ y:=by omega
 rw[yJ1,if_pos hv,e]
theorem gF1 (y w:Int) (h1:0≤y) (h2:y≤10001) (hw:0≤w∧w≤6):wC.l1 w (fst_ y)=some (w1 y w,()):=by
 have hb:=wH y h1 h2;have hk:=pI1 (fst_ y);rw[wC.l1_eq,vH];simp(disch:=omega)only[ss,tmn (show(0:Int)≤wk (fst_ y)-w+7 by omega)];unfold w1;by_cases c:(wk (fst_ y)-w+7)%7≤3
 ·simp(disch:=omega)only[ss]
  congr 2
  unfold wk at *;omega
 ·simp(disch:=omega)only[ss]
  congr 2
  unfold wk at *;omega
theorem gP (y w:Int) (h1:0≤y) (h2:y≤10001) (hw:0≤w∧w≤6):wC.f y w=some (if y<1 then -719169 else if y>10000 then 2932903 else w1 y w,()):=by
 rw[wC.f_eq];by_cases c1:y<1
 ·rw[if_pos c1];simp(disch:=omega)only[ss]
 ·rw[if_neg c1];by_cases c2:y>10000
  ·rw[if_pos c2];simp(disch:=omega)only[ss]
  ·rw[if_neg c2];have hl:=gF1 y w h1 h2 hw;by_cases c3:y≤9999
   ·simp(disch:=omega)only[ss,jan1 y (by omega) c3,hl]
   ·have:y=10000:=by omega
    subst this;rw[pG]at hl;simp(disch:=omega)only[ss,hl]
theorem bD1 (a b:Int):uL.f a b=some (if a < -719162 then -719162 else a,if b>2932896 then 2932896 else b,()):=by rw[uL.f_eq];simp only[mm,cond_true,cond_false,gt_iff_lt]
section
variable (f iv ct un wkst : Int) (en : Bool) (mo we yd md : List Int) (dy : List Dy) (ho mi se po : List Int)
theorem cJ1 (s sec n0 y0 m0 d0 w0 t:Int) (ht:inT t) (hf:1≤f∧f≤7) (hw:0≤wkst∧wkst≤6) (hl:we.length≤100000):
  ∃A B,(f≤4→isIv f wkst we (t/86400) A B)∧(4<f→A=t/86400∧B=t/86400)∧bE.f ((f,iv,ct,un,wkst,en,mo,we,yd,md,dy,ho,mi,se,po,()),s,(n0,y0,m0,d0,w0,()),sec,()) t=some (A,B,()):=by
 have hb:=iH ht;obtain⟨y,m,d,hd,e,e'⟩:=oG (t/86400) hb.1 hb.2;obtain⟨hD,_⟩:=oD t (by unfold inT at ht;omega) (by unfold inT at ht;omega);obtain⟨q1,q2,q3,q4,_⟩:=wE hd;obtain⟨v1,v2,v3,v4⟩:=pC.1 hd.1;have hof:=xW (t/86400) y m d e;have heq:=hd.2;rw[bE.f_eq,hD];simp only[cV1];rw[hof];simp only[cV1];by_cases f1:f=1
 ·subst f1;by_cases c:we=[]
  ·subst c;have hnil:(([]:List Int).length:Int)=0:=rfl;have hs:=dG y v1;have h13:=zX y;have hfb:=wH y (by omega) (by omega);have e3:fst_ y+cum y 13-1=fst_ (y+1)-1:=by omega
   refine⟨fst_ y,fst_ (y+1)-1,fun _=>.inl ⟨rfl,rfl,y,v1,v2,q1,q2,rfl,rfl⟩,fun q=>by omega,?_⟩;simp(disch:=omega)only[ss,bH.f_eq,hnil,jan1 y v1 v2,lR y (by omega),e3]
  ·have hp:=lE.1 c;obtain⟨Y,K,h1,h2,h3,h4,h5,h6,_⟩:=eN (t/86400) wkst hb.1 hb.2 hw.1 hw.2;obtain⟨a1,a2,_⟩:=h1;have o1:=gP Y wkst h2 (by omega) hw;have o2:=gP (Y+1) wkst (by omega) (by omega) hw;have n0':=xH Y wkst;have n1':=xH (Y+1) wkst;have b0:=wH Y h2 (by omega);have b1:=wH (Y+1) (by omega) (by omega);have f0:fst_ 0 = -719528:=by decide
   have f10:fst_ 10001=2933263:=by decide
   refine⟨_,_,fun _=>.inr (.inl ⟨rfl,c,Y,h2,h3,a1,a2,rfl,rfl⟩),fun q=>by omega,?_⟩
   have fin:∀v1 v2:Int,v1=(if Y<1 then -719169 else if Y>10000 then 2932903 else w1 Y wkst)→v2=(if Y+1<1 then -719169 else if Y+1>10000 then 2932903 else w1 (Y+1) wkst) →
     (if v1 < -719162 then -719162 else v1)=(if w1 Y wkst < -719162 then -719162 else w1 Y wkst)∧(if v2-1>2932896 then 2932896 else v2-1)=(if w1 (Y+1) wkst-1>2932896 then 2932896 else w1 (Y+1) wkst-1)∧(-10000000≤v2∧v2≤10000000):=fun v1 v2 e1 e2=>by
    have hv1:(v1 = -719169∧Y=0)∨v1=w1 Y wkst:=by
     by_cases cY:Y<1
     ·rw[if_pos cY]at e1;exact .inl ⟨e1,by omega⟩
     ·rw[if_neg cY,if_neg (by omega)]at e1;exact .inr e1
    have hv2:(v2=2932903∧Y=10000)∨v2=w1 (Y+1) wkst:=by
     rw[if_neg (by omega)]at e2;by_cases cY:Y+1>10000
     ·rw[if_pos cY]at e2;exact .inl ⟨e2,by omega⟩
     ·rw[if_neg cY]at e2;exact .inr e2
    refine⟨?_,?_,?_⟩
    ·rcases hv1 with⟨e3,e4⟩ | e3
     ·subst e4;rw[e3];split <;> split <;> omega
     ·rw[e3]
    ·rcases hv2 with⟨e3,e4⟩ | e3
     ·subst e4;have n2:fst_ (10000+1)=2933263:=f10;rw[e3];split <;> split <;> omega
     ·rw[e3]
    ·rcases hv2 with⟨e3,_⟩ | e3 <;> rw[e3] <;> omega
   obtain⟨g1,g2,g3⟩:=fin _ _ rfl rfl;rw[←g1,←g2];simp(disch:=omega)only[ss,bH.f_eq,mI.f_eq,h6,o1,o2,bD1]
 ·by_cases f2:f=2
  ·subst f2;have hc:=zE y m q3 q4;have hml:=gK y m;have e1:t/86400-d+1=fst_ y+cum y m:=by omega
   have e2:t/86400-d+mlen y m=fst_ y+cum y (m+1)-1:=by omega
   refine⟨fst_ y+cum y m,fst_ y+cum y (m+1)-1,fun _=>.inr (.inr (.inl ⟨rfl,y,m,v1,v2,q3,q4,by omega,by omega,rfl,rfl⟩)),fun q=>by omega,?_⟩;simp(disch:=omega)only[ss,gH y m (by omega),e1,e2]
  ·by_cases f3:f=3
   ·subst f3;have hk:=pI1 (t/86400);have hm:Int.tmod (wk (t/86400)-wkst+7) 7=(t/86400+3-wkst)%7:=by rw[tmn (by omega)];unfold wk;omega
    have e6:t/86400-(t/86400+3-wkst)%7+7-1=t/86400-(t/86400+3-wkst)%7+6:=by omega
    refine⟨_,_,fun _=>.inr (.inr (.inr (.inl ⟨rfl,rfl,rfl⟩))),fun q=>by omega,?_⟩;simp(disch:=omega)only[ss,hm,e6,bD1]
   ·refine⟨t/86400,t/86400,fun q=>.inr (.inr (.inr (.inr ⟨by omega,rfl,rfl⟩))),fun _=>⟨rfl,rfl⟩,?_⟩;simp(disch:=omega)only[ss]
end
abbrev PlT :=Rl×(Rl×Int×(Int×Int×Int×Int×Int×Unit)×Int×Unit)×Int×(List Int)×(List Int)×(List Int)×Unit
noncomputable def per (f w:Int) (we:List Int) (t:Int):Int:=Classical.epsilon fun k=>cA1 f w we t k
theorem rO1 {f w:Int} {we:List Int} {t k:Int} (h:cA1 f w we t k):cA1 f w we t (per f w we t):=Classical.epsilon_spec ⟨k,h⟩
theorem sU {f w:Int} {we:List Int} {t k:Int} (h:cA1 f w we t k):k=per f w we t:=
 Int.le_antisymm (kX h (rO1 h) (rX1 _)) (kX (rO1 h) h (rX1 _))
noncomputable def ind (p:Prop):Bool:=@decide p (Classical.propDecidable p)
theorem fH {p:Prop}:ind p=true↔p:=@decide_eq_true_iff p (Classical.propDecidable p)
theorem iW {p:Prop} (h:p):ind p=true:=fH.2 h
theorem sP {p:Prop} (h:¬p):ind p=false:=by
 cases e:ind p with
 | false=>rfl
 | true=>exact absurd (fH.1 e) h
noncomputable def tK (f wkst:Int) (mo we yd md:List Int) (dy:List Dy) (s n:Int):Bool:=
 ind (∃y0 m0 d0 y m d,uG (s/86400) y0 m0 d0∧uG n y m d∧fitP f wkst mo we yd md dy m0 d0 (wk (s/86400)) n y m d)
theorem wC1 {f wkst:Int} {mo we yd md:List Int} {dy:List Dy} {s n:Int} (h:tK f wkst mo we yd md dy s n=true): -719162≤n∧n≤2932896:=by unfold tK at h;obtain⟨y0,m0,d0,y,m,d,_,h,_⟩:=fH.1 h;have:=wE h;omega
structure PlanOK (P:PlT) (r:Rl) (s:Int) (F:Int→Bool) (pr:Int→Int) (h m c:List Int):Prop where
 dmk:wD.f r s=some (P.2.1,true,())
 er:P.1=r
 es:P.2.2.1=s
 eh:P.2.2.2.1=h
 em:P.2.2.2.2.1=m
 ec:P.2.2.2.2.2.1=c
 inS:inT s
 fits:∀n,kB.f P.2.1 n=some (F n,())
 fin:∀n,F n=true → -719162≤n∧n≤2932896
 period:∀t,inT t→pF.f P.2.1 t=some (pr t-pr s,())
 days:∀t,inT t → ∃A B,bE.f P.2.1 t=some (A,B,())∧(A≤t/86400∧t/86400≤B ∧ -719162≤A∧B≤2932896)∧(r.1≤4 → ∀x,inT x→(pr x=pr t↔A≤x/86400∧x/86400≤B))∧(4<r.1→A=t/86400∧B=t/86400)
 p5:r.1=5 → ∀t,inT t→pr t=t/3600
 p6:r.1=6 → ∀t,inT t→pr t=t/60
 p7:r.1=7 → ∀t,inT t→pr t=t
 mono:∀t t',inT t→inT t'→t≤t'→pr t≤pr t'
 bd:∀t,inT t → -300000000000≤pr t∧pr t≤300000000000
 oh:okT h 23
 om:okT m 59
 oc:okT c 59
 fr:1≤r.1∧r.1≤7
 iv:1≤r.2.1∧r.2.1≤1000
 lp:r.2.2.2.2.2.2.2.2.2.2.2.2.2.2.1.length≤1000
section
variable (f iv ct un wkst : Int) (en : Bool) (mo we yd md : List Int) (dy : List Dy) (ho mi se po : List Int)
theorem wM1 (s sec n y0 m0 d0:Int) (hs:kL mo we yd md dy ho mi se po) (hw:0≤wkst∧wkst≤6) (h0:uG (s/86400) y0 m0 d0):
  kB.f ((f,iv,ct,un,wkst,en,mo,we,yd,md,dy,ho,mi,se,po,()),s,(s/86400,y0,m0,d0,wk (s/86400),()),sec,()) n=some (tK f wkst mo we yd md dy s n,()):=by
 by_cases c: -719162≤n∧n≤2932896
 ·obtain⟨y,m,d,h,e,_⟩:=oG n c.1 c.2;obtain⟨b,h1,h2⟩:=fJ1 f iv ct un wkst en mo we yd md dy ho mi se po s sec (s/86400) y0 m0 d0 (wk (s/86400)) n y m d hs hw h e;rw[h1];have:tK f wkst mo we yd md dy s n=b:=by
   unfold tK
   cases b with
   | true=>exact iW ⟨y0,m0,d0,y,m,d,h0,h,h2.1 rfl⟩
   | false=>
    refine sP fun⟨y0',m0',d0',y',m',d',g0,g,q⟩=>?_
    obtain⟨rfl,rfl,rfl⟩:=jL g0 h0;obtain⟨rfl,rfl,rfl⟩:=jL g h;exact absurd (h2.2 q) (by simp)
  rw[this]
 ·rw[bI1 f iv ct un wkst en mo we yd md dy ho mi se po s sec (s/86400) y0 m0 d0 (wk (s/86400)) n c];have:tK f wkst mo we yd md dy s n=false:=by
   cases hq:tK f wkst mo we yd md dy s n with
   | false=>rfl
   | true=>exact absurd (wC1 hq) c
  rw[this]
def sJ (s:Int):List Int:=tms ho (decide (f≤4)) (s%86400/3600) 24
def tP (s:Int):List Int:=tms mi (decide (f≤5)) (s%86400/60%60) 60
def xP (s:Int):List Int:=tms se (decide (f≤6)) (s%86400%60) 60
theorem bQ1 (s:Int) (hs:kL mo we yd md dy ho mi se po) (hM:mA.f (f,iv,ct,un,wkst,en,mo,we,yd,md,dy,ho,mi,se,po,())=some (true,())) (ht:inT s):
  ∃P:PlT,cD.f (f,iv,ct,un,wkst,en,mo,we,yd,md,dy,ho,mi,se,po,()) s=some (P,true,()) ∧
   PlanOK P (f,iv,ct,un,wkst,en,mo,we,yd,md,dy,ho,mi,se,po,()) s (tK f wkst mo we yd md dy s) (per f wkst we) (sJ f ho s) (tP f mi s) (xP f se s):=by
 have hp:=uQ1 (r:=(f,iv,ct,un,wkst,en,mo,we,yd,md,dy,ho,mi,se,po,())) hs hM;dsimp only at hp;have hf:1≤f∧f≤7:=⟨hp.1.1.1,hp.1.1.2.1⟩
 have hw:0≤wkst∧wkst≤6:=⟨hp.1.1.2.2.2.2.2.2.1,hp.1.1.2.2.2.2.2.2.2⟩
 have hl:we.length≤100000:=hs.2.1;obtain⟨y0,m0,d0,h0,e0,_⟩:=oG (s/86400) (iH ht).1 (iH ht).2;have hMk:=fJ _ s hM ht y0 m0 d0 e0;obtain⟨sec,hsec⟩:∃x,x=s%86400:=⟨_,rfl⟩
 have hs1:0≤sec∧sec≤86399:=by omega
 have g1:kD.f ho (decide (f≤4)) (sec/3600) 24=some (sJ f ho s,()):=by rw[hsec];exact(dI ho (decide (f≤4)) (s%86400/3600) 24 (by have:=hp.2.1.2.2.2.2.1.2;omega) (by omega)).1
 have g2:kD.f mi (decide (f≤5)) (sec/60%60) 60=some (tP f mi s,()):=by rw[hsec];exact(dI mi (decide (f≤5)) (s%86400/60%60) 60 (by have:=hp.2.1.2.2.2.2.2.1.2;omega) (by omega)).1
 have g3:kD.f se (decide (f≤6)) (sec%60) 60=some (xP f se s,()):=by rw[hsec];exact(dI se (decide (f≤6)) (s%86400%60) 60 (by have:=hp.2.1.2.2.2.2.2.2.1.2;omega) (by omega)).1
 have t1:w6 (Int.tdiv sec 3600)=sec/3600:=by rw[tdn hs1.1,wr (by omega) (by omega)]
 have t2:Int.tmod (w6 (Int.tdiv sec 60)) 60=sec/60%60:=by rw[tdn hs1.1,wr (by omega) (by omega),tmn (by omega)]
 have t3:Int.tmod sec 60=sec%60:=tmn hs1.1 _;rw[←hsec]at hMk;refine⟨((f,iv,ct,un,wkst,en,mo,we,yd,md,dy,ho,mi,se,po,()),((f,iv,ct,un,wkst,en,mo,we,yd,md,dy,ho,mi,se,po,()),s,(s/86400,y0,m0,d0,wk (s/86400),()),sec,()),s,sJ f ho s,tP f mi s,xP f se s,()),?_,?_⟩
 ·rw[cD.f_eq,hMk];simp(disch:=omega)only[ss,zG.f_eq,t1,t2,t3,g1,g2,g3]
 have hper:∀t,inT t→cA1 f wkst we t (per f wkst we t)∧(-300000000000≤per f wkst we t∧per f wkst we t≤300000000000)∧nG.f (f,iv,ct,un,wkst,en,mo,we,yd,md,dy,ho,mi,se,po,()) t=some (per f wkst we t+off f wkst,()):=fun t h=>by obtain⟨k,k1,k2,k3,_⟩:=yD1 f iv ct un wkst en mo we yd md dy ho mi se po t h hf hw hl;have e:=sU k1;subst e;exact⟨k1,k2,k3⟩
 have hoff:0≤off f wkst∧off f wkst≤2932896:=by unfold off;split <;> (try split) <;> omega
 refine { dmk:=hMk,er:=rfl,es:=rfl,eh:=rfl,em:=rfl,ec:=rfl,inS:=ht,fits:=fun n=>?_,fin:=fun n h=>wC1 h,period:=fun t h=>?_,days:=fun t h=>?_,p5:=fun q t h=>?_,p6:=fun q t h=>?_,p7:=fun q t h=>?_,mono:=fun t t' h h' q=>?_,bd:=fun t h=>(hper t h).2.1,oh:=?_,om:=?_,oc:=?_,fr:=hf,iv:=⟨hp.1.1.2.2.1,hp.1.1.2.2.2.1⟩,lp:=?_ }
 ·exact wM1 f iv ct un wkst en mo we yd md dy ho mi se po s sec n y0 m0 d0 hs hw h0
 ·have a:=hper t h;have b:=hper s ht;have e:per f wkst we t+off f wkst-(per f wkst we s+off f wkst)=per f wkst we t-per f wkst we s:=by omega
  rw[pF.f_eq];simp(disch:=omega)only[ss,a.2.2,b.2.2,e]
 ·obtain⟨A,B,h1,h2,h3⟩:=cJ1 f iv ct un wkst en mo we yd md dy ho mi se po s sec (s/86400) y0 m0 d0 (wk (s/86400)) t h hf hw hl;have hd:=iH h;refine⟨A,B,h3,?_,fun q x hx=>?_,h2⟩
  ·by_cases c:f≤4
   ·have:=iT1 (h1 c) hd;omega
   ·have:=h2 (by omega);omega
  ·have hx':=iH hx;have q:f≤4:=q
   have hn:∀t,inT t→cF1 f wkst we (t/86400) (per f wkst we t):=fun t h=>by
    rcases(hper t h).1 with⟨_,a⟩ | ⟨z,_⟩ | ⟨z,_⟩ | ⟨z,_⟩
    ·exact a
    ·omega
    ·omega
    ·omega
   have hb:=iT1 (h1 q) hd;refine⟨fun z=>?_,fun z=>(kJ1 (h1 q) (hn t h) (hn x hx) hx').1 z⟩;refine Classical.byContradiction fun hc=>?_
   rcases(show x/86400≤A-1∨B+1≤x/86400 by omega)with g | g
   ·have ht1:inT ((A-1)*86400):=by unfold inT;omega
    have n1:=hn _ ht1;have e:(A-1)*86400/86400=A-1:=by omega
    rw[e]at n1;have k1:=(kJ1 (h1 q) (hn t h) n1 (by omega)).2.1 rfl;have k2:=rW (hn x hx) n1 g;omega
   ·have ht1:inT ((B+1)*86400):=by unfold inT;omega
    have n1:=hn _ ht1;have e:(B+1)*86400/86400=B+1:=by omega
    rw[e]at n1;have k1:=(kJ1 (h1 q) (hn t h) n1 (by omega)).2.2 rfl;have k2:=rW n1 (hn x hx) g;omega
 ·have q:f=5:=q;rcases(hper t h).1 with⟨z,_⟩ | ⟨_,z⟩ | ⟨z,_⟩ | ⟨z,_⟩
  ·omega
  ·exact z
  ·omega
  ·omega
 ·have q:f=6:=q;rcases(hper t h).1 with⟨z,_⟩ | ⟨z,_⟩ | ⟨_,z⟩ | ⟨z,_⟩
  ·omega
  ·omega
  ·exact z
  ·omega
 ·have q:f=7:=q;rcases(hper t h).1 with⟨z,_⟩ | ⟨z,_⟩ | ⟨z,_⟩ | ⟨_,z⟩
  ·omega
  ·omega
  ·omega
  ·exact z
 ·exact kX (hper t h).1 (hper t' h').1 q
 ·exact tK1 ho _ _ 23 24 hp.2.1.2.2.2.2.1 (by omega) (by omega) (by omega)
 ·exact tK1 mi _ _ 59 60 hp.2.1.2.2.2.2.2.1 (by omega) (by omega) (by omega)
 ·exact tK1 se _ _ 59 60 hp.2.1.2.2.2.2.2.2.1 (by omega) (by omega) (by omega)
 ·have:po.length≤60:=hp.2.1.2.2.2.2.2.2.2.1.2;show po.length≤1000;omega
end
theorem sP1 (r:Rl) (s:Int) (b:Bool) (hM:mA.f r=some (b,())) (h:¬(b=true∧inT s)):
  ∃P:PlT,cD.f r s=some (P,false,()):=by
 rw[cD.f_eq,nP1 r s b hM h];exact⟨_,by simp(disch:=omega)only[ss];rfl⟩
theorem tM1 {c:Bool} {H R X:Option (Bool×Unit)} {p q:Prop} (hX:X=some (false,())) (hH:c=true→sC H p) (hc:c=false→p) (hR:sC R q):
  sC (bif c then H.bind (fun t=>bif !t.1 then X else R)else R) (p∧q):=by
 obtain⟨b,r1,r2⟩:=hR
 cases c with
 | false=>
  have:=hc rfl;exact⟨b,r1,r2.trans ⟨fun h=>⟨this,h⟩,fun h=>h.2⟩⟩
 | true=>
  obtain⟨d,h1,h2⟩:=hH rfl;rw[cond_true,h1];simp only[cV1]
  cases d with
  | false=>exact⟨false,hX,⟨fun h=>(by cases h),fun h=>h2.2 h.1⟩⟩
  | true=>exact⟨b,r1,r2.trans ⟨fun h=>⟨h2.1 rfl,h⟩,fun h=>h.2⟩⟩
theorem mA1 (l:List Int) (n all:Int) (hl:l.length≤1000000) (hn:0≤n∧n≤1000) (ha:0≤all∧all≤1000):sC (uB.f l n all) (n∈l∨n-all-1∈l):=by
 rw[uB.f_eq,sN l n hl];by_cases c:n∈l
 ·exact⟨true,by simp(disch:=omega)only[ss,dp c],by simp[c]⟩
 ·refine⟨decide (n-all-1∈l),by simp(disch:=omega)only[ss,dn c,sN l (n-all-1) hl],?_⟩;rw[decide_eq_true_iff];simp[c]
theorem xA1 (y w:Int) (hw:0≤w∧w≤6):mC.f y w=some (if 1≤y∧y≤9999 then(wks y w,0,())else(0,1,())):=by
 have l1t:mC.l1 y w true=some (0,1,()):=by rw[mC.l1_eq,cond_true]
 rw[mC.f_eq,l1t];by_cases c1:y<1
 ·rw[dp c1,cond_true,if_neg (by omega)]
 ·by_cases c2:y>9999
  ·rw[dn c1,cond_false,dp c2,cond_true,if_neg (by omega)]
  ·have h1:=cI1 y w (by omega) (by omega) hw.1 hw.2 (nO y (by omega) (by omega));have h2:=cI1 (y+1) w (by omega) (by omega) hw.1 hw.2 (nO (y+1) (by omega) (by omega));have hb:=vF1 y w (by omega);have hn:=xH y w;have hf:=wH y (by omega) (by omega);have hd:w1 (y+1) w-w1 y w=7*wks y w:=by omega
   have hq:Int.tdiv (7*wks y w) 7=wks y w:=by rw[Int.mul_tdiv_cancel_left _ (by omega)]
   rw[dn c1,cond_false,dn c2,cond_false,dn (show ¬w<0 by omega),cond_false,dn (show ¬w>6 by omega),mC.l1_eq,cond_false,if_pos (by omega)];simp(disch:=omega)only[ss,h1,h2,hd,hq]
theorem xM (n y m d:Int) (h:uG n y m d) (e:fB.f n=some (y,m,d,0,())):aF.f n=some (y,n-fst_ y+1,0,()):=by obtain⟨q1,q2,q3,q4,q5,q6⟩:=wE h;obtain⟨v1,v2,v3,v4⟩:=pC.1 h.1;have hs13:=wG y (by omega);rw[aF.f_eq,e];simp(disch:=omega)only[ss,nO y (by omega) (by omega)]
theorem tN1 (n fr bk:Int) (f iv ct un wkst:Int) (en:Bool) (mo we yd md:List Int) (dy:List Dy) (ho mi se po:List Int) (hl:dy.length≤1000000):∀(k i:Nat),dy.length-i=k→i≤dy.length →
  sC (iA.l3 n fr bk i (f,iv,ct,un,wkst,en,mo,we,yd,md,dy,ho,mi,se,po,())) (∃x∈dy.drop i,x.2.1=wk n∧(x.1=0∨x.1=fr∨x.1=bk)):=by
 intro k
 induction k with
 | zero=>
  intro i hk hil;rw[iA.l3_eq,List.drop_eq_nil_of_le (by omega)];exact⟨false,by simp(disch:=omega)only[ss],by simp⟩
 | succ k ih=>
  intro i hk hil;have hlt:i<dy.length:=by omega
  obtain⟨b,h1,h2⟩:=ih (i+1) (by omega) (by omega);rw[pV1,qV1]at h1;rw[iA.l3_eq,tB ((0,0,()):Dy) hlt,aE];dsimp only;generalize hx:dy.getD i ((0,0,()):Dy)=x;have hx':dy.getD i ((0,0,()):Int×Int×Unit)=x:=hx;have l4t:iA.l4 n fr bk i true (f,iv,ct,un,wkst,en,mo,we,yd,md,dy,ho,mi,se,po,())=some (true,()):=by rw[iA.l4_eq,cond_true]
  by_cases c:x.2.1=wk n∧(x.1=0∨x.1=fr∨x.1=bk)
  ·refine⟨true,?_,by simp only[true_iff];exact⟨x,fV1 ..,c⟩⟩;obtain⟨c1,c2⟩:=c;by_cases d0:x.1=0
   ·simp(disch:=omega)only[ss,hx',l4t]
   ·by_cases d1:x.1=fr
    ·simp(disch:=omega)only[ss,hx',l4t]
    ·have d2:x.1=bk:=by omega
     simp(disch:=omega)only[ss,hx',l4t]
  ·refine⟨b,?_,?_⟩
   ·by_cases c1:x.2.1=wk n
    ·have d0:¬x.1=0:=fun q=>c ⟨c1,.inl q⟩
     have d1:¬x.1=fr:=fun q=>c ⟨c1,.inr (.inl q)⟩
     have d2:¬x.1=bk:=fun q=>c ⟨c1,.inr (.inr q)⟩
     simp(disch:=omega)only[ss,hx',iA.l4_eq,h1]
    ·simp(disch:=omega)only[ss,hx',iA.l4_eq,h1]
   ·rw[h2];constructor
    ·rintro⟨z,hz,h⟩;exact⟨z,eV1 _ hz,h⟩
    ·rintro⟨z,hz,h⟩;rcases kV1.1 hz with e | hz
     ·exact absurd (e ▸ h) c
     ·exact⟨z,hz,h⟩
section
variable (f iv ct un wkst : Int) (en : Bool) (mo we yd md : List Int) (dy : List Dy) (ho mi se po : List Int)
theorem cG1 (n:Int) (hs:we.length≤100000) (hn: -719162≤n∧n≤2932896) (hw:0≤wkst∧wkst≤6) (hne:we≠[]):sC (nE.f (f,iv,ct,un,wkst,en,mo,we,yd,md,dy,ho,mi,se,po,()) n) (wkP wkst we n):=by
 unfold wkP hasP;obtain⟨Y,k,w1_,w2,w3,w4,w5,_,w6⟩:=eN n wkst hn.1 hn.2 hw.1 hw.2;have hW:=xA1 Y wkst hw;rw[nE.f_eq];dsimp only;rw[w6];simp only[cV1];rw[hW];by_cases cY:1≤Y∧Y≤9999
 ·rw[if_pos cY];have hb:=vF1 Y wkst (by omega);obtain⟨b,h1,h2⟩:=mA1 we k (wks Y wkst) (by omega) (by omega) (by omega);refine⟨b,by simp(disch:=omega)only[ss,h1],?_⟩;rw[h2];constructor
  ·exact fun h=>.inr ⟨Y,k,w1_,cY.1,cY.2,.inr h⟩
  ·rintro(q | ⟨Y',k',x1,x2,x3,x4⟩)
   ·exact absurd q hne
   ·obtain⟨e1,e2⟩:=jJ w2 (by omega) w1_ x1;rw[e1,e2];exact x4.resolve_left hne
 ·rw[if_neg cY];refine⟨false,by simp(disch:=omega)only[ss],?_⟩;simp only[hW1,false_iff];rintro(q | ⟨Y',k',x1,x2,x3,_⟩)
  ·exact hne q
  ·obtain⟨e1,_⟩:=jJ w2 (by omega) w1_ x1;exact cY (by omega)
theorem uL1 (n y m d:Int) (hs:mo.length≤100000∧dy.length≤100000) (h:uG n y m d) (e:fB.f n=some (y,m,d,0,())) (hf:1≤f) (hne:dy≠[]) (hnum:∀x∈dy,x.1≠0→f=2∨f=1):
  sC (iA.f (f,iv,ct,un,wkst,en,mo,we,yd,md,dy,ho,mi,se,po,()) n) (wdP f mo dy n y m d):=by
 obtain⟨q1,q2,q3,q4,q5,q6⟩:=wE h;obtain⟨v1,v2,v3,v4⟩:=pC.1 h.1;have hy:=wG y (by omega);have h13:=zX y;have hs13:=dG y v1;have hml:=gK y m
 have go:∀fr al:Int,1≤fr→fr≤al→al≤366→sC (iA.l2 n fr al (f,iv,ct,un,wkst,en,mo,we,yd,md,dy,ho,mi,se,po,())) (∃x∈dy,x.2.1=wk n∧(x.1=0∨x.1=(fr-1)/7+1∨x.1 = -((al-fr)/7+1))):=fun fr al h1 h2 h3=>by
  have t:=tN1 n ((fr-1)/7+1) (-((al-fr)/7+1)) f iv ct un wkst en mo we yd md dy ho mi se po (by omega) _ 0 rfl (hV1 _);rw[oV1,fW1]at t;have e1:Int.tdiv (fr-1) 7=(fr-1)/7:=tdn (by omega) 7;have e2:Int.tdiv (al-fr) 7=(al-fr)/7:=tdn (by omega) 7;have e3:0-((al-fr)/7+1) = -((al-fr)/7+1):=by omega
  rw[iA.l2_eq];simp(disch:=omega)only[ss,e1,e2,e3];exact t
 rw[iA.f_eq,e];simp only[cV1];rw[aJ y m (by omega)];simp only[cV1];unfold wdP
 have conv:∀{q:Prop},(q↔(∃x∈dy,x.2.1=wk n∧(x.1=0∨x.1=((if f=2∨mo≠[]then d else n-fst_ y+1)-1)/7+1∨x.1 = -(((if f=2∨mo≠[]then mlen y m else cum y 13)-(if f=2∨mo≠[]then d else n-fst_ y+1))/7+1)))) →
   (q↔(dy=[] ∨ ∃x∈dy,x.2.1=wk n∧(x.1=0∨x.1=((if f=2∨mo≠[]then d else n-fst_ y+1)-1)/7+1∨x.1 = -(((if f=2∨mo≠[]then mlen y m else cum y 13)-(if f=2∨mo≠[]then d else n-fst_ y+1))/7+1)))):=
  fun h=>h.trans ⟨.inr,fun q=>q.resolve_left hne⟩
 have mth:¬(f=1∧mo=[])→sC (iA.l1 n y d (mlen y m) false (f,iv,ct,un,wkst,en,mo,we,yd,md,dy,ho,mi,se,po,())) (dy=[] ∨ ∃x∈dy,x.2.1=wk n∧(x.1=0∨x.1=((if f=2∨mo≠[]then d else n-fst_ y+1)-1)/7+1∨x.1 = -(((if f=2∨mo≠[]then mlen y m else cum y 13)-(if f=2∨mo≠[]then d else n-fst_ y+1))/7+1))):=fun hc=>by
  rw[iA.l1_eq,cond_false];refine(go d (mlen y m) v3 v4 (by omega)).iff (conv ?_);by_cases cc:f=2∨mo≠[]
  ·rw[if_pos cc,if_pos cc]
  ·rw[if_neg cc,if_neg cc];have hf1:f≠1:=fun q=>hc ⟨q,Classical.byContradiction fun w=>cc (.inr w)⟩
   have hz:∀x∈dy,x.1=0:=fun x hx=>Classical.byContradiction fun w=>by
    rcases hnum x hx w with q | q
    ·exact cc (.inl q)
    ·exact hf1 q
   constructor
   ·rintro⟨x,hx,hx2,_⟩;exact⟨x,hx,hx2,.inl (hz x hx)⟩
   ·rintro⟨x,hx,hx2,_⟩;exact⟨x,hx,hx2,.inl (hz x hx)⟩
 by_cases c1:f=1
 ·by_cases c2:mo=[]
  ·have hlen0:(mo.length:Int)=0:=by rw[c2];rfl
   have hl:qE.f y=some (rI y,()):=zO y (by omega)
   have hcum:cum y 13=if rI y=true then 366 else 365:=by
    have h3:(3:Int)≤13:=by omega
    unfold cum cumT
    cases rI y with
    | true=>simp
    | false=>simp
   have g:=go (n-fst_ y+1) (cum y 13) (by omega) (by omega) (by omega);rw[dp c1,cond_true,dp hlen0,iA.l1_eq,cond_true,xM n y m d h e];simp only[cV1];rw[hl];simp only[cV1]
   have key:sC (bif rI y then(iA.l2 n (n-fst_ y+1) 366 (f,iv,ct,un,wkst,en,mo,we,yd,md,dy,ho,mi,se,po,()))else(iA.l2 n (n-fst_ y+1) 365 (f,iv,ct,un,wkst,en,mo,we,yd,md,dy,ho,mi,se,po,())))
     (∃x∈dy,x.2.1=wk n∧(x.1=0∨x.1=(n-fst_ y+1-1)/7+1∨x.1 = -((cum y 13-(n-fst_ y+1))/7+1))):=by
    rw[hcum]at g ⊢
    cases hlb:rI y with
    | true=>
     rw[hlb,if_pos rfl]at g;rw[cond_true,if_pos rfl];exact g
    | false=>
     rw[hlb,if_neg (by simp)]at g;rw[cond_false,if_neg (by simp)];exact g
   refine key.iff (conv ?_);rw[if_neg (show ¬(f=2∨mo≠[]) by rw[c1,c2];simp),if_neg (show ¬(f=2∨mo≠[]) by rw[c1,c2];simp)]
  ·have:=lE.1 c2;rw[dp c1,cond_true,dn (show ¬(mo.length:Int)=0 by omega)];exact mth fun q=>c2 q.2
 ·rw[dn c1,cond_false];exact mth fun q=>c1 q.1
theorem fP1 (s n y m d y0 m0 d0:Int) (hs:kL mo we yd md dy ho mi se po) (hw:0≤wkst∧wkst≤6) (hf:1≤f) (hnum:∀x∈dy,x.1≠0→f=2∨f=1) (hS:inT s)
  (h0:uG (s/86400) y0 m0 d0) (e0:fB.f (s/86400)=some (y0,m0,d0,0,())) (h:uG n y m d) (e:fB.f n=some (y,m,d,0,())):
  sC (dA.f (f,iv,ct,un,wkst,en,mo,we,yd,md,dy,ho,mi,se,po,()) s n) (fitP f wkst mo we yd md dy m0 d0 (wk (s/86400)) n y m d):=by
 obtain⟨k1,k2,k3,k4,k5,k6,k7,k8,k9⟩:=hs;obtain⟨q1,q2,q3,q4,q5,q6⟩:=wE h;obtain⟨v1,v2,v3,v4⟩:=pC.1 h.1;have hy:=wG y (by omega);have h13:=zX y;have hs13:=dG y v1;have hml:=gK y m;have hD:=(oD s (by unfold inT at hS;omega) (by unfold inT at hS;omega)).2;have hl:qE.f y=some (rI y,()):=zO y (by omega)
 have hcum:cum y 13=if rI y=true then 366 else 365:=by
  have h3:(3:Int)≤13:=by omega
  unfold cum cumT
  cases rI y with
  | true=>simp
  | false=>simp
 have pos:∀{α:Type} {l:List α},decide ((l.length:Int)>0)=true→l≠[]:=fun {α l} q=>lE.2 (of_decide_eq_true q)
 have nil:∀{α:Type} {l:List α},decide ((l.length:Int)>0)=false→l=[]:=fun {α l} q=>Classical.byContradiction fun w=>absurd (lE.1 w) (of_decide_eq_false q)
 have l2t:dA.l2 n m d (s/86400) m0 d0 true (f,iv,ct,un,wkst,en,mo,we,yd,md,dy,ho,mi,se,po,())=some (false,()):=by rw[dA.l2_eq,cond_true]
 have tst:sC (dA.l2 n m d (s/86400) m0 d0 false (f,iv,ct,un,wkst,en,mo,we,yd,md,dy,ho,mi,se,po,())) (stP f mo we yd md dy m0 d0 (wk (s/86400)) n m d):=by
  rw[dA.l2_eq,cond_false,dA.l3_eq];unfold stP;dsimp only;by_cases c:yd≠[]∨md≠[]∨dy≠[]
  ·have hp:(yd.length:Int)+(md.length:Int)+(dy.length:Int)>0:=by rw[lE,lE,lE]at c;omega
   exact⟨true,by simp(disch:=omega)only[ss],by simp[c]⟩
  ·have hp:¬(yd.length:Int)+(md.length:Int)+(dy.length:Int)>0:=by rw[lE,lE,lE]at c;omega
   by_cases c1:we=[]
   ·subst c1;have hnil:(([]:List Int).length:Int)=0:=rfl;by_cases f1:f=1
    ·subst f1;by_cases dd:d=d0
     ·by_cases mm0:m=m0
      ·exact⟨true,by simp(disch:=omega)only[ss,hnil,aE,dA.l4_eq],by simp[dd,mm0]⟩
      ·refine⟨decide ((mo.length:Int)>0),by simp(disch:=omega)only[ss,hnil,aE,dA.l4_eq],?_⟩;rw[decide_eq_true_iff,←lE];simp[c,dd,mm0]
     ·exact⟨false,by simp(disch:=omega)only[ss,hnil,aE,dA.l4_eq],by simp[c,dd]⟩
    ·by_cases f2:f=2
     ·subst f2;refine⟨decide (d=d0),by simp(disch:=omega)only[ss,hnil,aE,dA.l4_eq],?_⟩;rw[decide_eq_true_iff];simp[c]
     ·by_cases f3:f=3
      ·subst f3;refine⟨decide (wk n=wk (s/86400)),by simp(disch:=omega)only[ss,hnil,aE,dA.l4_eq],?_⟩;rw[decide_eq_true_iff];simp[c]
      ·exact⟨true,by simp(disch:=omega)only[ss,hnil,aE,dA.l4_eq],by simp[f1,f2,f3]⟩
   ·have hwp:(we.length:Int)>0:=lE.1 c1;refine⟨decide (wk n=wk (s/86400)),by simp(disch:=omega)only[ss,aE,dA.l4_eq],?_⟩;rw[decide_eq_true_iff];simp[c,c1]
 have tdy:sC (bif decide ((dy.length:Int)>0)then((iA.f (f,iv,ct,un,wkst,en,mo,we,yd,md,dy,ho,mi,se,po,()) n).bind fun t11=>dA.l2 n m d (s/86400) m0 d0 (!t11.1) (f,iv,ct,un,wkst,en,mo,we,yd,md,dy,ho,mi,se,po,()))else(dA.l2 n m d (s/86400) m0 d0 false (f,iv,ct,un,wkst,en,mo,we,yd,md,dy,ho,mi,se,po,())))
   (wdP f mo dy n y m d∧stP f mo we yd md dy m0 d0 (wk (s/86400)) n m d):=by
  obtain⟨b,r1,r2⟩:=tst;by_cases cd:dy=[]
  ·rw[dn (show ¬(dy.length:Int)>0 by rw[cd];simp),cond_false];exact⟨b,r1,r2.trans ⟨fun q=>⟨.inl cd,q⟩,fun q=>q.2⟩⟩
  ·have:=lE.1 cd;obtain⟨b',g1,g2⟩:=uL1 f iv ct un wkst en mo we yd md dy ho mi se po n y m d ⟨k1,k5⟩ h e hf cd hnum;rw[dp this,cond_true,g1];simp only[cV1]
   cases b' with
   | false=>exact⟨false,l2t,⟨fun q=>(by cases q),fun q=>g2.2 q.1⟩⟩
   | true=>exact⟨b,r1,r2.trans ⟨fun q=>⟨g2.1 rfl,q⟩,fun q=>q.2⟩⟩
 have hz:∀L:Int,L=cum y 13→sC (dA.l1 n y m d (s/86400) m0 d0 (n-fst_ y+1) L (f,iv,ct,un,wkst,en,mo,we,yd,md,dy,ho,mi,se,po,())) (fitP f wkst mo we yd md dy m0 d0 (wk (s/86400)) n y m d):=fun L hL=>by
  subst hL;rw[dA.l1_eq];dsimp only;rw[aJ y m (by omega)];simp only[cV1]
  refine sC.iff (tM1 l2t (p:=mo=[]∨m∈mo) (fun hc=>?_) (fun hc=>.inl (nil hc)) (tM1 l2t (p:=wkP wkst we n) (fun hc=>cG1 f iv ct un wkst en mo we yd md dy ho mi se po n (by omega) ⟨q5,q6⟩ hw (pos hc)) (fun hc=>.inl (nil hc))
   (tM1 l2t (p:=hasP yd (n-fst_ y+1) (cum y 13)) (fun hc=>(mA1 yd _ _ (by omega) (by omega) (by omega)).iff ⟨.inr,fun q=>q.resolve_left (pos hc)⟩) (fun hc=>.inl (nil hc))
   (tM1 l2t (p:=hasP md d (mlen y m)) (fun hc=>(mA1 md _ _ (by omega) (by omega) (by omega)).iff ⟨.inr,fun q=>q.resolve_left (pos hc)⟩) (fun hc=>.inl (nil hc)) tdy)))) ?_
  ·rw[sN mo m (by omega)];refine⟨_,rfl,?_⟩;rw[decide_eq_true_iff];exact⟨.inr,fun q=>q.resolve_left (pos hc)⟩
  ·unfold fitP;exact⟨fun⟨a1,a2,a3,a4,a5,a6⟩=>⟨a1,a3,a4,a5,a6,a2⟩,fun⟨a1,a3,a4,a5,a6,a2⟩=>⟨a1,a2,a3,a4,a5,a6⟩⟩
 rw[dA.f_eq,e,hD];simp only[cV1];rw[e0];simp only[cV1];rw[xM n y m d h e];simp only[cV1];rw[hl];simp only[cV1]
 cases hlb:rI y with
 | true=>exact hz 366 (by rw[hcum,hlb,if_pos rfl])
 | false=>exact hz 365 (by rw[hcum,hlb,if_neg (by simp)])
theorem oJ1 (s n:Int) (hs:kL mo we yd md dy ho mi se po) (hw:0≤wkst∧wkst≤6) (hf:1≤f) (hnum:∀x∈dy,x.1≠0→f=2∨f=1) (hS:inT s) (hn: -719162≤n∧n≤2932896):
  dA.f (f,iv,ct,un,wkst,en,mo,we,yd,md,dy,ho,mi,se,po,()) s n=some (tK f wkst mo we yd md dy s n,()):=by
 have hd:=iH hS;obtain⟨y0,m0,d0,h0,_,e0⟩:=oG (s/86400) hd.1 hd.2;obtain⟨y,m,d,h,_,e⟩:=oG n hn.1 hn.2;obtain⟨b,h1,h2⟩:=fP1 f iv ct un wkst en mo we yd md dy ho mi se po s n y m d y0 m0 d0 hs hw hf hnum hS h0 e0 h e;rw[h1];have:tK f wkst mo we yd md dy s n=b:=by
  unfold tK
  cases b with
  | true=>exact iW ⟨y0,m0,d0,y,m,d,h0,h,h2.1 rfl⟩
  | false=>
   refine sP fun⟨y0',m0',d0',y',m',d',g0,g,q⟩=>?_
   obtain⟨rfl,rfl,rfl⟩:=jL g0 h0;obtain⟨rfl,rfl,rfl⟩:=jL g h;exact absurd (h2.2 q) (by simp)
 rw[this]
end
theorem iL1 {α:Type} (M:Nat) (l a b:List α) (h:l.length≤M):(l++a.take (M-l.length+1)++b).take (M+1)=(l++(a++b)).take (M+1):=by
 by_cases c:a.length≤M-l.length+1
 ·rw[lV1 c,nV1]
 ·have e1:(l++a.take (M-l.length+1)).length=M+1:=by rw[gV1,aW1];omega
  rw[lX1 (by omega),lV1 (by omega),List.take_append,lX1 (by omega),lV1 (show l.length≤M+1 by omega)]
  congr 2
  omega
theorem oX {α:Type} (M:Nat) (l a:List α) (h:l.length=M+1):(l++a).take (M+1)=l:=by rw[lX1 (by omega),lV1 (by omega)]
section
variable (lo hi d : Int)
def sel (a b:Int) (ss:List Int):List Int:=(ss.filter fun s=>decide (lo≤3600*a+60*b+s)&&decide (3600*a+60*b+s<hi)).map fun s=>d*86400+(3600*a+60*b+s)
theorem jX (a b:Int) (ss:List Int) (h:∀s,s∈ss → ¬(lo≤3600*a+60*b+s∧3600*a+60*b+s<hi)):sel lo hi d a b ss=[]:=by unfold sel;rw[List.map_eq_nil_iff,List.filter_eq_nil_iff];intro s hs;rw[dV1,decide_eq_true_eq,decide_eq_true_eq];exact h s hs
def selH (m c:List Int) (a:Int):List Int:=m.flatMap fun b=>sel lo hi d a b c
theorem kP1 (h m c:List Int):dayL h m c lo hi d=h.flatMap (selH lo hi d m c):=by unfold dayL tod selH sel;simp only[List.filter_flatMap,List.map_flatMap,List.filter_map,List.map_map];rfl
variable (P : PlT) (M : Nat) (hM : M ≤ 200000) (hlo : 0 ≤ lo ∧ lo ≤ 100000) (hhi : 0 ≤ hi ∧ hi ≤ 100000) (hd : -1000000 ≤ d ∧ d ≤ 4000000)
 (oh:okT P.2.2.2.1 23) (om:okT P.2.2.2.2.1 59) (oc:okT P.2.2.2.2.2.1 59)
include hM hlo hhi hd oh om oc
theorem mT1 (i j:Nat) (a b:Int) (ha:0≤a∧a≤23) (hb:0≤b∧b≤59) (hj:j<P.2.2.2.2.1.length) (rest:List Int)
  (C:∀l:List Int,l.length≤M→fA.l3 d lo hi M a P.2.2.2.1 (P.2.2.2.1.length:Int) i P.2.2.2.2.1 (P.2.2.2.2.1.length:Int) ((j+1:Nat):Int) P l=some ((l++rest).take (M+1),(),())):
  ∀(n k:Nat),P.2.2.2.2.2.1.length-k=n→k≤P.2.2.2.2.2.1.length → ∀l:List Int,l.length≤M →
   fA.l5 d lo hi M a (3600*a+60*b) P.2.2.2.1 (P.2.2.2.1.length:Int) i P.2.2.2.2.1 (P.2.2.2.2.1.length:Int) j P.2.2.2.2.2.1 (P.2.2.2.2.2.1.length:Int) k P l=some ((l++(sel lo hi d a b (P.2.2.2.2.2.1.drop k)++rest)).take (M+1),(),()):=by
 have hlim:eD=17179869184:=rfl;have lh:=oh.2.2;have lm:=om.2.2;have lc:=oc.2.2;intro n
 induction n with
 | zero=>
  intro k hk hkl l hl;have e:k=P.2.2.2.2.2.1.length:=by omega
  subst e;have:=C l hl;rw[pV1,qV1]at this;rw[fA.l5_eq];simp(disch:=omega)only[ss];rw[this,iW1];rfl
 | succ n ih=>
  intro k hk hkl l hl;have hlt:k<P.2.2.2.2.2.1.length:=by omega
  have hs:=oc.2.1 _ (eE hlt);have ih':=ih (k+1) (by omega) (by omega);rw[pV1,qV1]at ih';rw[fA.l5_eq,xV1,tB 0 hlt];generalize P.2.2.2.2.2.1.getD k 0=s at hs ⊢;by_cases c1:3600*a+60*b+s<lo
  ·have e:sel lo hi d a b (s::P.2.2.2.2.2.1.drop (k+1))=sel lo hi d a b (P.2.2.2.2.2.1.drop (k+1)):=by unfold sel;rw[jY1 (by rw[dn (show ¬lo≤3600*a+60*b+s by omega)];simp)]
   rw[e];simp(disch:=omega)only[ss,fA.l6_eq];exact ih' l hl
  ·by_cases c2:3600*a+60*b+s≥hi
   ·have e:sel lo hi d a b (s::P.2.2.2.2.2.1.drop (k+1))=sel lo hi d a b (P.2.2.2.2.2.1.drop (k+1)):=by unfold sel;rw[jY1 (by rw[dn (show ¬3600*a+60*b+s<hi by omega)];simp)]
    rw[e];simp(disch:=omega)only[ss,fA.l6_eq];exact ih' l hl
   ·have e:sel lo hi d a b (s::P.2.2.2.2.2.1.drop (k+1))=(d*86400+(3600*a+60*b+s))::sel lo hi d a b (P.2.2.2.2.2.1.drop (k+1)):=by unfold sel;rw[List.filter_cons_of_pos (by rw[dp (show lo≤3600*a+60*b+s by omega),dp (show 3600*a+60*b+s<hi by omega)];rfl)];rfl
    rw[e];have ea:d*86400+(3600*a+60*b)+s=d*86400+(3600*a+60*b+s):=by omega
    have hlen:(l++[d*86400+(3600*a+60*b+s)]).length=l.length+1:=tF _ _;have eapp:∀x:List Int,l++((d*86400+(3600*a+60*b+s))::x++rest)=l++[d*86400+(3600*a+60*b+s)]++(x++rest):=fun x=>by simp
    rw[eapp];by_cases c3:l.length=M
    ·simp(disch:=omega)only[ss,fA.l6_eq,yJ.f_eq,ea,hlen,mW1,hlim];rw[oX _ _ _ (by rw[hlen,c3])]
    ·simp(disch:=omega)only[ss,fA.l6_eq,yJ.f_eq,ea,hlen,mW1,hlim];exact ih' _ (by rw[hlen];omega)
theorem oS1 (i:Nat) (a:Int) (ha:0≤a∧a≤23) (hi':i<P.2.2.2.1.length) (rest:List Int)
  (C:∀l:List Int,l.length≤M→fA.l1 d lo hi M P.2.2.2.1 (P.2.2.2.1.length:Int) ((i+1:Nat):Int) P l=some ((l++rest).take (M+1),(),())):
  ∀(n j:Nat),P.2.2.2.2.1.length-j=n→j≤P.2.2.2.2.1.length → ∀l:List Int,l.length≤M →
   fA.l3 d lo hi M a P.2.2.2.1 (P.2.2.2.1.length:Int) i P.2.2.2.2.1 (P.2.2.2.2.1.length:Int) j P l=some ((l++((P.2.2.2.2.1.drop j).flatMap (fun b=>sel lo hi d a b P.2.2.2.2.2.1)++rest)).take (M+1),(),()):=by
 have lh:=oh.2.2;have lm:=om.2.2;have lc:=oc.2.2;intro n
 induction n with
 | zero=>
  intro j hj hjl l hl;have e:j=P.2.2.2.2.1.length:=by omega
  subst e;have:=C l hl;rw[pV1,qV1]at this;rw[fA.l3_eq];simp(disch:=omega)only[ss];rw[this,iW1];rfl
 | succ n ih=>
  intro j hj hjl l hl;have hlt:j<P.2.2.2.2.1.length:=by omega
  have hb:=om.2.1 _ (eE hlt);have ih':=ih (j+1) (by omega) (by omega);have ih2:=ih';rw[pV1,qV1]at ih2;rw[fA.l3_eq,xV1,tB 0 hlt,xW1];generalize P.2.2.2.2.1.getD j 0=b at hb ⊢;by_cases c1:3600*a+60*b+59<lo
  ·rw[jX lo hi d a b _ (fun s hs=>by have:=oc.2.1 s hs;omega)];simp(disch:=omega)only[ss,fA.l4_eq];exact ih2 l hl
  ·by_cases c2:3600*a+60*b≥hi
   ·rw[jX lo hi d a b _ (fun s hs=>by have:=oc.2.1 s hs;omega)];simp(disch:=omega)only[ss,fA.l4_eq];exact ih2 l hl
   ·have h5:=mT1 lo hi d P M hM hlo hhi hd oh om oc i j a b ha hb hlt _ ih' P.2.2.2.2.2.1.length 0 (by omega) (hV1 _) l hl;rw[oV1,fW1]at h5;simp(disch:=omega)only[ss,fA.l4_eq];rw[h5,nV1]
theorem bS1 :∀(n i:Nat),P.2.2.2.1.length-i=n→i≤P.2.2.2.1.length → ∀l:List Int,l.length≤M →
   fA.l1 d lo hi M P.2.2.2.1 (P.2.2.2.1.length:Int) i P l=some ((l++(P.2.2.2.1.drop i).flatMap (selH lo hi d P.2.2.2.2.1 P.2.2.2.2.2.1)).take (M+1),(),()):=by
 have lh:=oh.2.2;have lm:=om.2.2;have lc:=oc.2.2;intro n
 induction n with
 | zero=>
  intro i hin hil l hl;have e:i=P.2.2.2.1.length:=by omega
  subst e;rw[fA.l1_eq];simp(disch:=omega)only[ss];rw[iW1,List.flatMap_nil,sV1,lV1 (by omega)]
 | succ n ih=>
  intro i hin hil l hl;have hlt:i<P.2.2.2.1.length:=by omega
  have ha:=oh.2.1 _ (eE hlt);have ih':=ih (i+1) (by omega) (by omega);have ih2:=ih';rw[pV1,qV1]at ih2;rw[fA.l1_eq,xV1,tB 0 hlt,xW1];generalize P.2.2.2.1.getD i 0=a at ha ⊢
  have hnil:(∀x:Int,0≤x→x≤3599 → ¬(lo≤3600*a+x∧3600*a+x<hi))→selH lo hi d P.2.2.2.2.1 P.2.2.2.2.2.1 a=[]:=fun q=>by
   unfold selH;rw[List.flatMap_eq_nil_iff];intro b hb;refine jX lo hi d a b _ fun s hs=>?_
   have:=oc.2.1 s hs;have:=om.2.1 b hb;have:=q (60*b+s) (by omega) (by omega);omega
  by_cases c1:3600*a+3599<lo
  ·rw[hnil (fun x h1 h2=>by omega)];simp(disch:=omega)only[ss,fA.l2_eq];exact ih2 l hl
  ·by_cases c2:3600*a≥hi
   ·rw[hnil (fun x h1 h2=>by omega)];simp(disch:=omega)only[ss,fA.l2_eq];exact ih2 l hl
   ·have h3:=oS1 lo hi d P M hM hlo hhi hd oh om oc i a ha hlt _ ih' P.2.2.2.2.1.length 0 (by omega) (hV1 _) l hl;rw[oV1,fW1]at h3;simp(disch:=omega)only[ss,fA.l2_eq];exact h3
theorem hB1 :fA.f P d lo hi M ()=some ((dayL P.2.2.2.1 P.2.2.2.2.1 P.2.2.2.2.2.1 lo hi d).take (M+1),(),()):=by have h:=bS1 lo hi d P M hM hlo hhi hd oh om oc P.2.2.2.1.length 0 (by omega) (hV1 _) [] (hV1 _);rw[oV1,fW1,uV1]at h;rw[fA.f_eq,kP1];exact h
end
theorem qR1 (P:PlT) (r:Rl) (s:Int) (F:Int→Bool) (pr:Int→Int) (h m c:List Int) (hP:PlanOK P r s F pr h m c) (lo hi B:Int) (M:Nat) (hM:M≤200000) (hlo:0≤lo∧lo≤100000) (hhi:0≤hi∧hi≤100000) (hB:B≤2932896):
  ∀(n:Nat) (d:Int),(B+1-d).toNat=n → -719162≤d → ∀l:List Int,l.length≤M+1→jB.l1 M lo hi B d P l=some ((l++setF F h m c lo hi n d).take (M+1),()):=by
 have hlim:eD=17179869184:=rfl;intro n
 induction n with
 | zero=>
  intro d hn hd l hl;rw[jB.l1_eq,dn (show ¬d≤B by omega),cond_false,jB.l2_eq,cond_false];show _=some ((l++[]).take (M+1),());rw[sV1,lV1 hl]
 | succ n ih=>
  intro d hn hd l hl;have hdB:d≤B:=by omega
  rw[jB.l1_eq,dp hdB,cond_true,jB.l2_eq];by_cases c1:l.length=M+1
  ·rw[dn (show ¬(l.length:Int)≤M by omega),cond_false,oX _ _ _ c1]
  ·have hl':l.length≤M:=by omega
   rw[dp (show(l.length:Int)≤M by omega),cond_true,fC.f_eq,hP.fits d];have hw:w6 (d+1)=d+1:=wr (by omega) (by omega);have hwl:w6 ((M:Int)-(l.length:Int))=((M-l.length:Nat):Int):=by rw[wr (by omega) (by omega)];omega
   simp only[cV1,hw,hwl];unfold setF
   cases hF:F d with
   | false=>
    rw[cond_false,if_neg (by simp)];exact ih (d+1) (by omega) (by omega) l hl
   | true=>
    have hday:=hB1 lo hi d P (M-l.length) (by omega) hlo hhi ⟨by omega,by omega⟩ (by rw[hP.eh];exact hP.oh) (by rw[hP.em];exact hP.om) (by rw[hP.ec];exact hP.oc);rw[hP.eh,hP.em,hP.ec]at hday;rw[cond_true,if_pos rfl,hday];have hlen:(l++(dayL h m c lo hi d).take (M-l.length+1)).length≤M+1:=by rw[gV1,aW1];omega
    rw[gV1]at hlen;simp only[cV1];rw[dp (by omega),cond_true,ih (d+1) (by omega) (by omega) _ (by rw[gV1];exact hlen),iL1 _ _ _ _ hl']
theorem half {a b:Nat} (h:a+b<4611686018427387904):w6 (shrI .u64 (IntKind.u64.wrap (w6 ((a:Int)+(b:Int)))) 1)=(((a+b)/2:Nat):Int):=by
 rw[wr (x:=(a:Int)+(b:Int)) (by omega) (by omega),Go.IntWalk.u64_in ((a:Int)+(b:Int)) (by omega)];have e:shrI .u64 ((a:Int)+(b:Int)) 1=(((a+b)/2:Nat):Int):=by show Int.fdiv ((a:Int)+(b:Int)) (2 ^ (min (1:Int).toNat 64))=_;rw[show min (1:Int).toNat 64=1 from rfl,show(2:Int) ^ 1=2 from rfl,Int.fdiv_eq_ediv_of_nonneg _ (by decide)];omega
 rw[e,wr (by omega) (by omega)]
theorem rL1 (a b:Int):uH.f a b=some (decide (a<b),()):=by rw[uH.f_eq];simp(disch:=omega)only[ss,rG.f_eq,ne_eq,not_true_eq_false]
theorem yP1 (a:Int):mE.f a=some (false,()):=by rw[mE.f_eq];simp(disch:=omega)only[ss,ne_eq,not_true_eq_false]
theorem qT1 {l:List Int} (hl:l.length≤1000000) (hr:Rise l) (t:Int):∀(k a b:Nat),b-a≤k→a≤b→b≤l.length→(∀j,j<a→l.getD j 0<t)→(∀j,b≤j→j<l.length→t≤l.getD j 0) →
  ∃i:Nat,vA.l1 l t (l.length:Int) a b=some ((i:Int),decide (i<l.length∧l.getD i 0=t),())∧i≤l.length∧(∀j,j<i→l.getD j 0<t)∧(∀j,i≤j→j<l.length→t≤l.getD j 0):=by
 have done:∀a:Nat,a≤l.length→(∀j,j<a→l.getD j 0<t)→(∀j,a≤j→j<l.length→t≤l.getD j 0) → ∃i:Nat,vA.l1 l t (l.length:Int) a a=some ((i:Int),decide (i<l.length∧l.getD i 0=t),())∧i≤l.length∧(∀j,j<i→l.getD j 0<t)∧(∀j,i≤j→j<l.length→t≤l.getD j 0):=by
  intro a ha h1 h3;rw[vA.l1_eq];refine⟨a,?_,ha,h1,h3⟩;by_cases hc:a<l.length
  ·by_cases he:l.getD a 0=t
   ·rw[dp (show a<l.length∧l.getD a 0=t from⟨hc,he⟩)];simp(disch:=omega)only[ss]
   ·rw[dn (show ¬(a<l.length∧l.getD a 0=t)from fun q=>he q.2)];simp(disch:=omega)only[ss,yP1]
  ·rw[dn (show ¬(a<l.length∧l.getD a 0=t)from fun q=>hc q.1)];simp(disch:=omega)only[ss]
 intro k
 induction k with
 | zero=>
  intro a b hk hab hb h1 h3;have e:a=b:=by omega
  subst e;exact done a hb h1 h3
 | succ k ih=>
  intro a b hk hab hb h1 h3;by_cases he:a=b
  ·subst he;exact done a hb h1 h3
  ·rw[vA.l1_eq,half (by omega)];have hm1:a≤(a+b)/2:=by omega
   have hm2:(a+b)/2<b:=by omega
   generalize (a+b)/2=m at hm1 hm2;simp(disch:=omega)only[ss,rL1];by_cases hm:l.getD m 0<t
   ·simp(disch:=omega)only[ss];refine ih (m+1) b (by omega) (by omega) hb (fun j hj=>?_) h3;by_cases hjm:j=m
    ·subst hjm;exact hm
    ·have:=bM hr (show j<m by omega) (by omega);omega
   ·simp(disch:=omega)only[ss];refine ih a m (by omega) hm1 (by omega) h1 fun j hj1 hj2=>?_
    by_cases hjm:j=m
    ·subst hjm;omega
    ·have:=bM hr (show m<j by omega) hj2;omega
theorem xR1 {l:List Int} (hl:l.length≤1000000) (hr:Rise l) (t:Int):∃i:Nat,vA.f l t=some ((i:Int),decide (i<l.length∧l.getD i 0=t),())∧i≤l.length∧(t∈l→i<l.length∧l.getD i 0=t):=by
 obtain⟨i,h1,h2,h3,h4⟩:=qT1 hl hr t l.length 0 l.length (by omega) (hV1 _) (tV1 _) (fun j hj=>absurd hj (by omega)) (fun j h1 h2=>absurd h1 (by omega));rw[vA.f_eq];refine⟨i,h1,h2,fun hm=>?_⟩;obtain⟨j,hj,e⟩:=aG1 hm;have hij:i≤j:=by
  refine Classical.byContradiction fun c=>?_
  have:=h3 j (by omega);omega
 by_cases c:i=j
 ·subst c;exact⟨hj,e⟩
 ·have:=bM hr (show i<j by omega) hj;have:=h4 i (tV1 _) (by omega);omega
section
variable {P : PlT} {r : Rl} {s : Int} {F : Int → Bool} {pr : Int → Int} {h m c : List Int} (hP : PlanOK P r s F pr h m c)
abbrev inP (iv s:Int) (pr:Int→Int) (t:Int):Prop:=Int.tmod (pr t-pr s) iv=0
def rawP (iv s:Int) (F:Int→Bool) (pr:Int→Int) (h m c:List Int) (t:Int):Prop:=inT t∧t%86400∈tod h m c∧inP iv s pr t∧F (t/86400)=true
include hP
theorem jR (t:Int) (ht:inT t):tC.f P t=some (decide (inP r.2.1 s pr t),()):=by have hv:=hP.iv;rw[tC.f_eq,hP.period t ht,hP.er];simp(disch:=omega)only[ss]
theorem qG1 (t:Int) (ht:inT t):∃G:List Int,Rise G∧(∀x,x∈G↔rawP r.2.1 s F pr h m c x∧pr x=pr t) ∧
  ∀M:Nat,M≤200000→jB.f P t M=some (G.take (M+1),()):=by
 have hd:=iH ht;have hD:=(oD t (by unfold inT at ht;omega) (by unfold inT at ht;omega)).1;have hI:=jR hP t ht;obtain⟨A,B,g1,g2,g3,g4⟩:=hP.days t ht;by_cases c1:inP r.2.1 s pr t
 ·rw[dp c1]at hI;have hspan:∃lo hi,nF.f P t=some (lo,hi,())∧(0≤lo∧lo≤100000)∧(0≤hi∧hi≤100000) ∧
    ∀x,inT x→(pr x=pr t↔(A≤x/86400∧x/86400≤B)∧lo≤x%86400∧x%86400<hi):=by
   have hs1:0≤t%86400∧t%86400≤86399:=by omega
   rw[nF.f_eq,hD,hP.er];by_cases f5:r.1=5
   ·have e:Int.tmod (t%86400) 3600=t%86400%3600:=tmn hs1.1 _;refine⟨t%86400-t%86400%3600,t%86400-t%86400%3600+3600,by simp(disch:=omega)only[ss,e],by omega,by omega,fun x hx=>?_⟩;have a:=g4 (by omega);rw[hP.p5 f5 t ht,hP.p5 f5 x hx];constructor <;> intro q <;> omega
   ·by_cases f6:r.1=6
    ·have e:Int.tmod (t%86400) 60=t%86400%60:=tmn hs1.1 _;refine⟨t%86400-t%86400%60,t%86400-t%86400%60+60,by simp(disch:=omega)only[ss,e],by omega,by omega,fun x hx=>?_⟩;have a:=g4 (by omega);rw[hP.p6 f6 t ht,hP.p6 f6 x hx];constructor <;> intro q <;> omega
    ·by_cases f7:r.1=7
     ·refine⟨t%86400,t%86400+1,by simp(disch:=omega)only[ss],by omega,by omega,fun x hx=>?_⟩;have a:=g4 (by omega);rw[hP.p7 f7 t ht,hP.p7 f7 x hx];constructor <;> intro q <;> omega
     ·refine⟨0,86400,by simp(disch:=omega)only[ss],by omega,by omega,fun x hx=>?_⟩;rw[g3 (by have:=hP.fr;omega) x hx];constructor <;> intro q <;> omega
  obtain⟨lo,hi,s1,s2,s3,s4⟩:=hspan;refine⟨setF F h m c lo hi (B+1-A).toNat A,bY hP.oh.1 hP.om.1 hP.oc.1 hP.oh.2.1 hP.om.2.1 hP.oc.2.1 lo hi _ _,fun x=>?_,fun M hM=>?_⟩
  ·rw[eX hP.oh.2.1 hP.om.2.1 hP.oc.2.1];constructor
   ·rintro⟨q1,q2,q3,q4,q5,q6⟩;have hx:inT x:=by unfold inT;omega
    have hpr:=(s4 x hx).2 ⟨⟨by omega,by omega⟩,q5,q6⟩;refine⟨⟨hx,q4,?_,q3⟩,hpr⟩;unfold inP at c1 ⊢;rw[hpr];exact c1
   ·rintro⟨⟨hx,q4,_,q3⟩,hpr⟩;have:=(s4 x hx).1 hpr;exact⟨by omega,by omega,q3,q4,this.2⟩
  ·rw[jB.f_eq,hI];simp only[cV1,jV1,cond_false];rw[s1];simp only[cV1];rw[g1];simp only[cV1];exact qR1 P r s F pr h m c hP lo hi B M hM s2 s3 (by omega) _ A rfl (by omega) [] (hV1 _)
 ·rw[dn c1]at hI;refine⟨[],mF,fun x=>?_,fun M hM=>?_⟩
  ·constructor
   ·intro q;exact absurd q (by simp)
   ·rintro⟨⟨_,_,q,_⟩,e⟩;unfold inP at c1 q;rw[e]at q;exact absurd q c1
  ·rw[jB.f_eq,hI];rfl
omit hP
def qY (po:List Int) (l:List Int) (t:Int):Prop:=l.length≤100000 ∧ ∃i:Nat,i<l.length∧l.getD i 0=t∧((i:Int)+1∈po∨(i:Int)-(l.length:Int)∈po)
include hP
theorem mE1 (t:Int) (l:List Int) (hr:Rise l) (hl:l.length≤1000000):rD.f P t l=some (ind (qY r.2.2.2.2.2.2.2.2.2.2.2.2.2.2.1 l t),()):=by
 have lp:=hP.lp;obtain⟨i,h1,h2,h3⟩:=xR1 hl hr t;rw[rD.f_eq,h1,hP.er];generalize r.2.2.2.2.2.2.2.2.2.2.2.2.2.2.1=po at lp ⊢;simp only[cV1];by_cases c1:i<l.length∧l.getD i 0=t
 ·rw[dp c1,cond_true];by_cases c2:l.length≤100000
  ·have w1:w6 ((i:Int)+1)=(i:Int)+1:=wr (by omega) (by omega);have w2:w6 ((i:Int)-(l.length:Int))=(i:Int)-(l.length:Int):=wr (by omega) (by omega);rw[dp (show(l.length:Int)≤100000 by omega),cond_true,w1,w2,tE po _ (by omega),tE po _ (by omega)];simp only[cV1];by_cases c3:(i:Int)+1∈po
   ·rw[dp c3,cond_true,iW ⟨c2,i,c1.1,c1.2,.inl c3⟩]
   ·rw[dn c3,cond_false];by_cases c4:(i:Int)-(l.length:Int)∈po
    ·rw[dp c4,iW ⟨c2,i,c1.1,c1.2,.inr c4⟩]
    ·rw[dn c4,sP];rintro⟨_,j,j1,j2,j3⟩;have e:i=j:=gD1 hr c1.1 j1 (by rw[c1.2,j2]);subst e;rcases j3 with j3 | j3
     ·exact c3 j3
     ·exact c4 j3
  ·rw[dn (show ¬(l.length:Int)≤100000 by omega),cond_false,sP (fun q=>c2 q.1)]
 ·rw[dn c1,cond_false,sP];rintro⟨_,j,j1,j2,_⟩;refine c1 (h3 ?_);rw[←j2];exact eE j1
end
def belP (iv un:Int) (en:Bool) (po:List Int) (s:Int) (F:Int→Bool) (pr:Int→Int) (h m c:List Int) (t:Int):Prop:=
 rawP iv s F pr h m c t∧s≤t∧(en=true→t≤un) ∧
  (po=[] ∨ ∃G:List Int,Rise G∧(∀x,x∈G↔rawP iv s F pr h m c x∧pr x=pr t)∧qY po (G.take 100001) t)
section
variable {P : PlT} {r : Rl} {s : Int} {F : Int → Bool} {pr : Int → Int} {h m c : List Int} (hP : PlanOK P r s F pr h m c) (hMk : cD.f r s = some (P, true, ()))
include hP hMk
end
section
variable {r : Rl} {s : Int} {P : PlT} (hMk : cD.f r s = some (P, false, ()))
include hMk
end
section
variable {f iv ct un wkst : Int} {en : Bool} {mo we yd md : List Int} {dy : List Dy} {ho mi se po : List Int} {P : PlT} {s : Int} {F : Int → Bool} {pr : Int → Int} {h m c : List Int} (hP : PlanOK P (f, iv, ct, un, wkst, en, mo, we, yd, md, dy, ho, mi, se, po, ()) s F pr h m c) (hMk : cD.f (f, iv, ct, un, wkst, en, mo, we, yd, md, dy, ho, mi, se, po, ()) s = some (P, true, ()))
include hP hMk
end
section
variable (W : Int → Prop)
noncomputable def memL (a b:Int):List Int:=((List.range (b-a).toNat).map (fun(j:Nat)=>a+(j:Int))).filter fun x=>ind (W x)
theorem yD {a b x:Int}:x∈memL W a b↔W x∧a≤x∧x<b:=by
 unfold memL;rw[jX1,yV1,fH];constructor
 ·rintro⟨⟨j,hj,e⟩,h⟩;have:=List.mem_range.1 hj;exact⟨h,by omega,by omega⟩
 ·rintro⟨h,h1,h2⟩;exact⟨⟨(x-a).toNat,List.mem_range.2 (by omega),by omega⟩,h⟩
theorem cE (a b:Int):Rise (memL W a b):=by unfold memL;refine List.Pairwise.sublist aY1 ?_;rw[List.pairwise_map];exact List.Pairwise.imp (fun {i j} h=>by omega) List.pairwise_lt_range
theorem eJ {L:List Int} {a b:Int} (hr:Rise L) (h:∀x,x∈L↔W x∧a≤x∧x<b):L=memL W a b:=
 rK hr (cE W a b) fun x=>by rw[h,yD]
theorem aU {a b c:Int} (h1:a≤b) (h2:b≤c):memL W a b++memL W b c=memL W a c:=by
 refine eJ W (bK.2 ⟨cE W a b,cE W b c,fun x hx y hy=>?_⟩) fun x=>?_
 ·have:=(yD W).1 hx;have:=(yD W).1 hy;omega
 ·rw[gW1,yD,yD];constructor
  ·rintro(⟨q,_,_⟩ | ⟨q,_,_⟩) <;> exact⟨q,by omega,by omega⟩
  ·rintro⟨q,_,_⟩;by_cases c1:x<b
   ·exact .inl ⟨q,by omega,c1⟩
   ·exact .inr ⟨q,by omega,by omega⟩
theorem iY {a b:Int} (h:∀x,a≤x→x<b → ¬W x):memL W a b=[]:=
 (eJ W mF fun x=>⟨fun q=>absurd q (by simp),fun q=>absurd q.1 (h x q.2.1 q.2.2)⟩).symm
theorem dK {a b:Int} (h:b≤a):memL W a b=[]:=iY W fun x h1 h2=>by omega
end
section
variable (W : Int → Prop) (fr en : Int)
noncomputable def memC (a b:Int):List Int:=memL W (if fr≤a then a else fr) (if b≤en then b else en)
theorem qH {a b x:Int}:x∈memC W fr en a b↔W x∧(a≤x∧x<b)∧fr≤x∧x<en:=by
 unfold memC;rw[yD];by_cases c1:fr≤a
 ·rw[if_pos c1];by_cases c2:b≤en
  ·rw[if_pos c2];exact⟨fun h=>⟨h.1,⟨by omega,by omega⟩,by omega,by omega⟩,fun h=>⟨h.1,by omega,by omega⟩⟩
  ·rw[if_neg c2];exact⟨fun h=>⟨h.1,⟨by omega,by omega⟩,by omega,by omega⟩,fun h=>⟨h.1,by omega,by omega⟩⟩
 ·rw[if_neg c1];by_cases c2:b≤en
  ·rw[if_pos c2];exact⟨fun h=>⟨h.1,⟨by omega,by omega⟩,by omega,by omega⟩,fun h=>⟨h.1,by omega,by omega⟩⟩
  ·rw[if_neg c2];exact⟨fun h=>⟨h.1,⟨by omega,by omega⟩,by omega,by omega⟩,fun h=>⟨h.1,by omega,by omega⟩⟩
theorem vJ (a b:Int):Rise (memC W fr en a b):=cE W _ _
theorem wS {L:List Int} {a b:Int} (hr:Rise L) (h:∀x,x∈L↔W x∧(a≤x∧x<b)∧fr≤x∧x<en):L=memC W fr en a b:=
 rK hr (vJ W fr en a b) fun x=>by rw[h,qH]
theorem jI {a b c:Int} (h1:a≤b) (h2:b≤c):memC W fr en a b++memC W fr en b c=memC W fr en a c:=by
 refine wS W fr en (bK.2 ⟨vJ W fr en a b,vJ W fr en b c,fun x hx y hy=>?_⟩) fun x=>?_
 ·have:=(qH W fr en).1 hx;have:=(qH W fr en).1 hy;omega
 ·rw[gW1,qH,qH];constructor
  ·rintro(⟨q,q1,q2⟩ | ⟨q,q1,q2⟩) <;> exact⟨q,⟨by omega,by omega⟩,q2⟩
  ·rintro⟨q,q1,q2⟩;by_cases c1:x<b
   ·exact .inl ⟨q,⟨by omega,c1⟩,q2⟩
   ·exact .inr ⟨q,⟨by omega,by omega⟩,q2⟩
def inW (x:Int):Bool:=decide (fr≤x)&&decide (x<en)
theorem gJ {L:List Int} {a b:Int} (hr:Rise L) (h:∀x,x∈L↔W x∧a≤x∧x<b):L.filter (inW fr en)=memC W fr en a b:=by
 refine wS W fr en (List.Pairwise.sublist aY1 hr) fun x=>?_
 unfold inW;rw[jX1,h,dV1,decide_eq_true_eq,decide_eq_true_eq];exact⟨fun q=>⟨q.1.1,q.1.2,q.2⟩,fun q=>⟨⟨q.1,q.2.1⟩,q.2.2⟩⟩
theorem sF {W':Int→Prop} {a b a' b':Int} (h:∀x,fr≤x→x<en→(W x∧a≤x∧x<b↔W' x∧a'≤x∧x<b')):memC W fr en a b=memC W' fr en a' b':=by
 refine wS W' fr en (vJ W fr en a b) fun x=>?_
 rw[qH];constructor
 ·rintro⟨q,q1,q2⟩;have:=(h x q2.1 q2.2).1 ⟨q,q1⟩;exact⟨this.1,this.2,q2⟩
 ·rintro⟨q,q1,q2⟩;have:=(h x q2.1 q2.2).2 ⟨q,q1⟩;exact⟨this.1,this.2,q2⟩
theorem yC {a b:Int} (h:∀x,fr≤x→x<en→a≤x→x<b → ¬W x):memC W fr en a b=[]:=
 (wS W fr en mF fun x=>⟨fun q=>absurd q (by simp),fun q=>absurd q.1 (h x q.2.2.1 q.2.2.2 q.2.1.1 q.2.1.2)⟩).symm
theorem oN :memC W fr en fr en=memL W fr en:=by unfold memC;rw[if_pos (rX1 _),if_pos (rX1 _)]
theorem rN {a:Int} {l:List Int} {lo hi a1 a2:Int} (q:Int→Int) (hr:Rise (a::l)) (hq:∀x y,x≤y→q x≤q y) (ha:∀x,W x→(lo≤x∧x<hi∧q x=a↔a1≤x∧x<a2)):
  memC W fr en a1 a2++memC (fun x=>W x∧q x∈l) fr en lo hi=memC (fun x=>W x∧q x∈a::l) fr en lo hi:=by
 have hr:=uD.1 hr;refine wS _ fr en (bK.2 ⟨vJ W fr en _ _,vJ _ fr en _ _,fun x hx y hy=>?_⟩) fun x=>?_
 ·have h1:=(qH W fr en).1 hx;have h2:=(qH _ fr en).1 hy;have h3:=(ha x h1.1).2 h1.2.1;have h4:=hr.1 _ h2.1.2;refine Classical.byContradiction fun c=>?_
  have:=hq y x (by omega);omega
 ·rw[gW1,qH,qH,kV1];constructor
  ·rintro(⟨h,h1,h2⟩ | ⟨⟨h,h0⟩,h1,h2⟩)
   ·have:=(ha x h).2 h1;exact⟨⟨h,.inl this.2.2⟩,⟨this.1,this.2.1⟩,h2⟩
   ·exact⟨⟨h,.inr h0⟩,h1,h2⟩
  ·rintro⟨⟨h,h0⟩,h1,h2⟩;rcases h0 with h0 | h0
   ·exact .inl ⟨h,(ha x h).1 ⟨h1.1,h1.2,h0⟩,h2⟩
   ·exact .inr ⟨⟨h,h0⟩,h1,h2⟩
end
noncomputable def fM (po l:List Int):List Int:=if po=[]then l else l.filter fun x=>ind (qY po l x)
def picP (iv:Int) (po:List Int) (s:Int) (F:Int→Bool) (pr:Int→Int) (h m c:List Int) (t:Int):Prop:=
 rawP iv s F pr h m c t∧(po=[] ∨ ∃G:List Int,Rise G∧(∀x,x∈G↔rawP iv s F pr h m c x∧pr x=pr t)∧qY po (G.take 100001) t)
theorem dW {iv un:Int} {en:Bool} {po:List Int} {s:Int} {F:Int→Bool} {pr:Int→Int} {h m c:List Int} {t:Int}:belP iv un en po s F pr h m c t↔picP iv po s F pr h m c t∧s≤t∧(en=true→t≤un):=
 ⟨fun⟨a,b,c,d⟩=>⟨⟨a,d⟩,b,c⟩,fun⟨⟨a,d⟩,b,c⟩=>⟨a,b,c,d⟩⟩
theorem oL {po l:List Int} (h:Rise l):Rise (fM po l):=by
 unfold fM;split
 ·exact h
 ·exact List.Pairwise.sublist aY1 h
theorem wN {iv:Int} {po:List Int} {s:Int} {F:Int→Bool} {pr:Int→Int} {h m c:List Int} {a b:Int} {G:List Int} (hG:Rise G) (hm:∀x,x∈G↔rawP iv s F pr h m c x∧a≤x∧x<b)
  (hp:∀x y,inT x→inT y→a≤x→x<b→(pr y=pr x↔a≤y∧y<b)) (hlen:po=[]→G.length≤100001) (x:Int):x∈fM po (G.take 100001)↔picP iv po s F pr h m c x∧a≤x∧x<b:=by
 have hsame:∀x,inT x→a≤x→x<b → ∀y,y∈G↔rawP iv s F pr h m c y∧pr y=pr x:=fun x hx h1 h2 y=>by
  rw[hm];constructor
  ·rintro⟨q,q1⟩;exact⟨q,(hp x y hx q.1 h1 h2).2 q1⟩
  ·rintro⟨q,q1⟩;exact⟨q,(hp x y hx q.1 h1 h2).1 q1⟩
 unfold fM picP;by_cases cp:po=[]
 ·rw[if_pos cp,lV1 (hlen cp),hm];exact⟨fun q=>⟨⟨q.1,.inl cp⟩,q.2⟩,fun q=>⟨q.1.1,q.2⟩⟩
 ·rw[if_neg cp,jX1,fH];constructor
  ·rintro⟨q,q1⟩;have q2:=(hm x).1 (List.mem_of_mem_take q);exact⟨⟨q2.1,.inr ⟨G,hG,hsame x q2.1.1 q2.2.1 q2.2.2,q1⟩⟩,q2.2⟩
  ·rintro⟨⟨q,q1⟩,q2⟩;rcases q1 with q1 | ⟨G',g1,g2,g3⟩
   ·exact absurd q1 cp
   ·have e:G'=G:=rK g1 hG fun y=>by rw[g2,hsame x q.1 q2.1 q2.2]
    subst e;refine⟨?_,g3⟩;obtain⟨_,i,i1,i2,_⟩:=g3;rw[←i2];exact eE i1
theorem nQ1 {P:PlT} {L:List Int} (p:Int→Bool) (hl:L.length≤1000000) (hp:∀x,rD.f P x L=some (p x,())):∀(n i:Nat),L.length-i=n→i≤L.length → ∀acc:List Int,acc.length≤i →
  dB.l1 L L (L.length:Int) i P acc=some (acc++(L.drop i).filter p,()):=by
 have hlim:eD=17179869184:=rfl;intro n
 induction n with
 | zero=>
  intro i hn hi acc ha;have e:i=L.length:=by omega
  subst e;rw[dB.l1_eq];simp(disch:=omega)only[ss];rw[iW1,List.filter_nil,sV1]
 | succ n ih=>
  intro i hn hi acc ha;have hlt:i<L.length:=by omega
  rw[dB.l1_eq,xV1,tB 0 hlt,hp];generalize L.getD i 0=x
  cases hx:p x with
  | true=>
   have ih':=ih (i+1) (by omega) (by omega) (acc++[x]) (by rw[tF];omega);rw[pV1,qV1]at ih';rw[List.filter_cons_of_pos hx];simp(disch:=omega)only[ss,mW1,hlim];rw[ih',nV1];rfl
  | false=>
   have ih':=ih (i+1) (by omega) (by omega) acc (by omega);rw[pV1,qV1]at ih';rw[jY1 (by rw[hx];simp)];simp(disch:=omega)only[ss];exact ih'
theorem xL {P:PlT} {r:Rl} {s:Int} {F:Int→Bool} {pr:Int→Int} {h m c:List Int} (hP:PlanOK P r s F pr h m c) {L:List Int} (hr:Rise L) (hl:L.length≤1000000):
  dB.f P L=some (fM r.2.2.2.2.2.2.2.2.2.2.2.2.2.2.1 L,()):=by
 have lp:=hP.lp;have hpk:=fun x=>mE1 hP x L hr hl
 rw[dB.f_eq,hP.er];generalize r.2.2.2.2.2.2.2.2.2.2.2.2.2.2.1=po at lp hpk ⊢;unfold fM;by_cases cp:po=[]
 ·rw[if_pos cp,dp (show(po.length:Int)=0 by rw[cp];rfl),cond_true]
 ·have:=lE.1 cp;have hl1:=nQ1 _ hl hpk L.length 0 (by omega) (hV1 _) [] (hV1 _);rw[oV1,fW1,uV1]at hl1;rw[if_neg cp,dn (show ¬(po.length:Int)=0 by omega),cond_false,hl1]
section
variable {σ : Type} (yes : σ → Int → σ × Bool)
def run :σ→List Int→σ×Bool
 | s,[]=>(s,true)
 | s,x::l=>if(yes s x).2=true then run (yes s x).1 l else((yes s x).1,false)
theorem yL (s:σ) (x:Int) (l:List Int):run yes s (x::l)=if(yes s x).2=true then run yes (yes s x).1 l else((yes s x).1,false):=rfl
theorem yS :∀(s:σ) (a b:List Int),run yes s (a++b)=if(run yes s a).2=true then run yes (run yes s a).1 b else((run yes s a).1,false)
 | s,[],b=>rfl
 | s,x::a,b=>by
  rw[uX1,yL,yL];by_cases c:(yes s x).2=true
  ·rw[if_pos c,if_pos c,yS (yes s x).1 a b]
  ·rw[if_neg c,if_neg c,if_neg (by simp)]
theorem fQ1 (s:σ):run yes s []=(s,true):=rfl
end
def yesF (M:Int) (l:List Int) (t:Int):List Int×Bool:=(l++[t],decide (((l++[t]).length:Int)<M))
theorem wR1 (M:Nat):∀(X l:List Int),l.length<M→run (yesF M) l X=((l++X).take M,decide ((l++X).length<M))
 | [],l,h=>by rw[fQ1,sV1,lV1 (by omega),dp h]
 | x::X,l,h=>by
  rw[yL];have e:l++x::X=(l++[x])++X:=by simp
  have hl:(l++[x]).length=l.length+1:=tF l x;show(if decide (((l++[x]).length:Int)<M)=true then run (yesF M) (l++[x]) X else(l++[x],false))=_;rw[hl];by_cases c:l.length+1<M
  ·rw[dp (show((l.length+1:Nat):Int)<M by omega),if_pos rfl,wR1 M X (l++[x]) (by omega),e]
  ·rw[dn (show ¬((l.length+1:Nat):Int)<M by omega),if_neg (by simp),e,lX1 (by omega),lV1 (by omega),dn];rw[gV1];omega
def yesN (after:Int) (s:Int×Bool) (t:Int):(Int×Bool)×Bool:=if t>after then((t,true),false)else(s,!s.2)
theorem wS1 (after:Int):∀(X:List Int),run (yesN after) (0,false) X=match X.find? (fun x=>decide (x>after))with | some t=>((t,true),false) | none=>((0,false),true)
 | []=>rfl
 | x::X=>by
  rw[yL,List.find?_cons];unfold yesN;by_cases c:x>after
  ·rw[if_pos c,dp c];rfl
  ·rw[if_neg c,dn c];exact wS1 after X
theorem zI :∀{l:List Int},Rise l → ∀{a b:Int},(∀x,x∈l→a≤x∧x≤b)→l.length≤(b+1-a).toNat
 | [],_,_,_,_=>hV1 _
 | x::l,hr,a,b,h=>by
  have h0:=h x (fV1 ..)
  have:=zI (uD.1 hr).2 (a:=x+1) (b:=b) fun y hy=>by have:=h y (eV1 _ hy);have:=(uD.1 hr).1 y hy;omega
  rw[eW1];omega
theorem qQ {h m c:List Int} (oh:okT h 23) (om:okT m 59) (oc:okT c 59) (lo hi d:Int):(dayL h m c lo hi d).length≤86400:=by
 have:=zI (dO oh.1 om.1 oc.1 om.2.1 oc.2.1 lo hi d) (a:=d*86400) (b:=d*86400+86399) fun x hx=>by have:=(eM oh.2.1 om.2.1 oc.2.1 lo hi d x).1 hx;omega
 omega
theorem iN (po l:List Int):(fM po l).length≤l.length:=by
 unfold fM;split
 ·exact tV1 _
 ·exact List.length_filter_le _ _
def minL (t:Int) (c:List Int):List Int:=c.map fun s=>t+s
def qV (t:Int) (m c:List Int):List Int:=m.flatMap fun b=>minL (t+60*b) c
theorem kN {t x:Int} {c:List Int}:x∈minL t c↔x-t∈c:=by
 unfold minL;rw[yV1];constructor
 ·rintro⟨s,hs,e⟩;rw[show x-t=s by omega];exact hs
 ·intro h;exact⟨_,h,by omega⟩
theorem iU {c:List Int} (rc:Rise c) (t:Int):Rise (minL t c):=bQ rc _ fun x y h=>by omega
theorem yX {t x:Int} {m c:List Int} (hc:inR c 59):x∈qV t m c↔(x-t)/60∈m∧(x-t)%60∈c:=by
 unfold qV;rw[kX1];constructor
 ·rintro⟨b,hb,hx⟩;have hs:=kN.1 hx;have:=hc _ hs;have e1:(x-t)/60=b:=by omega
  have e2:(x-t)%60=x-(t+60*b):=by omega
  rw[e1,e2];exact⟨hb,hs⟩
 ·rintro⟨h1,h2⟩;refine⟨_,h1,kN.2 ?_⟩;rw[show x-(t+60*((x-t)/60))=(x-t)%60 by omega];exact h2
theorem kJ {m c:List Int} (rm:Rise m) (rc:Rise c) (hc:inR c 59) (t:Int):Rise (qV t m c):=by refine mN rm (fun b hb=>iU rc _) ?_;intro b b' hb hb' hlt x hx y hy;have:=hc _ (kN.1 hx);have:=hc _ (kN.1 hy);omega
section
variable {P : PlT} {r : Rl} {s0 : Int} {F : Int → Bool} {pr : Int → Int} {h m c : List Int} (hP : PlanOK P r s0 F pr h m c)
include hP
theorem dN (t:Int):Rise (minL t c):=iU hP.oc.1 t
theorem zD1 (t:Int):(minL t c).length≤1000000:=by have:=hP.oc.2.2;unfold minL;rw[vW1];omega
theorem gT (t:Int):(qV t m c).length≤3600:=by
 have:=zI (kJ hP.om.1 hP.oc.1 hP.oc.2.1 t) (a:=t) (b:=t+3599) fun x hx=>by have⟨h1,h2⟩:=(yX hP.oc.2.1).1 hx;have:=hP.om.2.1 _ h1;omega
 omega
theorem mK (d a x:Int) (hd: -719162≤d∧d≤2932896) (ha:a∈h) (hF:F d=true) (h1:d*86400+3600*a≤x) (h2:x<d*86400+3600*a+3600):
  rawP r.2.1 s0 F pr h m c x↔(x-(d*86400+3600*a))/60∈m∧(x-(d*86400+3600*a))%60∈c∧inP r.2.1 s0 pr x:=by
 have ha0:=hP.oh.2.1 a ha;unfold rawP;rw[fT hP.om.2.1 hP.oc.2.1,show x%86400/3600=a by omega,show x%86400/60%60=(x-(d*86400+3600*a))/60 by omega,show x%86400%60=(x-(d*86400+3600*a))%60 by omega,show x/86400=d by omega];constructor
 ·rintro⟨_,⟨_,q1,q2⟩,q3,_⟩;exact⟨q1,q2,q3⟩
 ·rintro⟨q1,q2,q3⟩;exact⟨by unfold inT;omega,⟨ha,q1,q2⟩,q3,hF⟩
theorem sJ1 (d a:Int) (hd: -719162≤d∧d≤2932896) (ha:a∈h) (hF:F d=true) (c5:r.1=5):(fM r.2.2.2.2.2.2.2.2.2.2.2.2.2.2.1 (qV (d*86400+3600*a) m c)).length≤1000000∧Rise (fM r.2.2.2.2.2.2.2.2.2.2.2.2.2.2.1 (qV (d*86400+3600*a) m c)) ∧
  (inP r.2.1 s0 pr (d*86400+3600*a) → ∀x,x∈fM r.2.2.2.2.2.2.2.2.2.2.2.2.2.2.1 (qV (d*86400+3600*a) m c)↔picP r.2.1 r.2.2.2.2.2.2.2.2.2.2.2.2.2.2.1 s0 F pr h m c x∧d*86400+3600*a≤x∧x<d*86400+3600*a+3600):=by
 have ha0:=hP.oh.2.1 a ha;have hlen:=gT hP (d*86400+3600*a);have htT:inT (d*86400+3600*a):=by unfold inT;omega
 have hper:∀x,inT x→d*86400+3600*a≤x→x<d*86400+3600*a+3600→pr x=pr (d*86400+3600*a):=fun x hx h1 h2=>by rw[hP.p5 c5 x hx,hP.p5 c5 _ htT];omega
 refine⟨yW1 (iN _ _) (by omega),oL (kJ hP.om.1 hP.oc.1 hP.oc.2.1 _),fun hin x=>?_⟩
 have:=wN (po:=r.2.2.2.2.2.2.2.2.2.2.2.2.2.2.1) (iv:=r.2.1) (s:=s0) (F:=F) (pr:=pr) (h:=h) (m:=m) (c:=c) (a:=d*86400+3600*a) (b:=d*86400+3600*a+3600) (kJ hP.om.1 hP.oc.1 hP.oc.2.1 (d*86400+3600*a)) (fun y=>by
  rw[yX hP.oc.2.1];constructor
  ·rintro⟨q1,q2⟩;have:=hP.om.2.1 _ q1;have hy:d*86400+3600*a≤y∧y<d*86400+3600*a+3600:=by omega
   refine⟨(mK hP d a y hd ha hF hy.1 hy.2).2 ⟨q1,q2,?_⟩,hy⟩;unfold inP at hin ⊢;rw[hper y (by unfold inT;omega) hy.1 hy.2];exact hin
  ·rintro⟨q,q1⟩;have:=(mK hP d a y hd ha hF q1.1 q1.2).1 q
   exact⟨this.1,this.2.1⟩) (fun x y hx hy h1 h2=>by
   rw[hP.p5 c5 x hx,hP.p5 c5 y hy]
   constructor <;> intro q <;> omega) (fun _=>by omega) x
 rw[lV1 (by omega)]at this;exact this
theorem hD1 (d a b:Int) (hd: -719162≤d∧d≤2932896) (ha:a∈h) (hb:b∈m) (hF:F d=true) (c6:r.1=6):(fM r.2.2.2.2.2.2.2.2.2.2.2.2.2.2.1 (minL (d*86400+3600*a+60*b) c)).length≤1000000∧Rise (fM r.2.2.2.2.2.2.2.2.2.2.2.2.2.2.1 (minL (d*86400+3600*a+60*b) c)) ∧
  (inP r.2.1 s0 pr (d*86400+3600*a+60*b) → ∀x,x∈fM r.2.2.2.2.2.2.2.2.2.2.2.2.2.2.1 (minL (d*86400+3600*a+60*b) c)↔picP r.2.1 r.2.2.2.2.2.2.2.2.2.2.2.2.2.2.1 s0 F pr h m c x∧d*86400+3600*a+60*b≤x∧x<d*86400+3600*a+60*b+60):=by
 have ha0:=hP.oh.2.1 a ha;have hb0:=hP.om.2.1 b hb;have hc60:=hP.oc.2.2;have hlen:(minL (d*86400+3600*a+60*b) c).length≤60:=by unfold minL;rw[vW1];exact hc60
 have htT:inT (d*86400+3600*a+60*b):=by unfold inT;omega
 refine⟨yW1 (iN _ _) (by omega),oL (dN hP _),fun hin x=>?_⟩
 have:=wN (po:=r.2.2.2.2.2.2.2.2.2.2.2.2.2.2.1) (iv:=r.2.1) (s:=s0) (F:=F) (pr:=pr) (h:=h) (m:=m) (c:=c) (a:=d*86400+3600*a+60*b) (b:=d*86400+3600*a+60*b+60) (dN hP (d*86400+3600*a+60*b)) (fun y=>by
  rw[kN];constructor
  ·intro q;have:=hP.oc.2.1 _ q;have hy:d*86400+3600*a+60*b≤y∧y<d*86400+3600*a+60*b+60:=by omega
   refine⟨(mK hP d a y hd ha hF (by omega) (by omega)).2 ⟨?_,?_,?_⟩,hy⟩
   ·rw[show(y-(d*86400+3600*a))/60=b by omega];exact hb
   ·rw[show(y-(d*86400+3600*a))%60=y-(d*86400+3600*a+60*b) by omega];exact q
   ·unfold inP at hin ⊢;rw[hP.p6 c6 y (by unfold inT;omega),show y/60=(d*86400+3600*a+60*b)/60 by omega,←hP.p6 c6 _ htT];exact hin
  ·rintro⟨q,q1⟩;have:=(mK hP d a y hd ha hF (by omega) (by omega)).1 q;rw[show y-(d*86400+3600*a+60*b)=(y-(d*86400+3600*a))%60 by omega]
   exact this.2.1) (fun x y hx hy h1 h2=>by
   rw[hP.p6 c6 x hx,hP.p6 c6 y hy]
   constructor <;> intro q <;> omega) (fun _=>by omega) x
 rw[lV1 (by omega)]at this;exact this
theorem qP1 (t:Int) (ht:inT t) (cb:Bool) (hcb:cb=true↔r.2.2.2.2.2.2.2.2.2.2.2.2.2.2.1=[]∨(1:Int)∈r.2.2.2.2.2.2.2.2.2.2.2.2.2.2.1∨(-1:Int)∈r.2.2.2.2.2.2.2.2.2.2.2.2.2.2.1):∀(n:Nat) (x:Int),(60-x).toNat≤n→0≤x→x≤2000 → ∀acc:List Int,acc.length+(60-x).toNat≤60 →
  ∃L:List Int,lA.l1 t r.2.1 x P acc=some (acc++L,())∧Rise L ∧ ∀y,y∈L↔t+x≤y∧y<t+60∧r.2.1∣y-t-x∧y-t∈c∧cb=true:=by
 have hlim:eD=17179869184:=rfl;have hiv:=hP.iv;have lp:=hP.lp;have lc:=hP.oc.2.2;have he:=hP.er;have hec:=hP.ec
 have stop:∀x:Int,¬x<60 → ∀acc:List Int,∃L:List Int,lA.l1 t r.2.1 x P acc=some (acc++L,())∧Rise L ∧ ∀y,y∈L↔t+x≤y∧y<t+60∧r.2.1∣y-t-x∧y-t∈c∧cb=true:=fun x hx acc=>by refine⟨[],?_,mF,fun y=>⟨fun q=>absurd q (by simp),fun q=>by omega⟩⟩;rw[lA.l1_eq,dn hx,cond_false,sV1]
 have hcore:∀(x:Int) (acc:List Int),x<60→lA.l1 t r.2.1 x P acc=lA.l2 t r.2.1 x (decide (x∈c)&&cb) P acc:=fun x acc hx=>by
  rw[lA.l1_eq,dp hx,cond_true,hec,tE c x (by omega),he];simp only[cV1];generalize r.2.2.2.2.2.2.2.2.2.2.2.2.2.2.1=po at hcb lp ⊢;by_cases c1:x∈c
  ·rw[dp c1,cond_true,Bool.true_and];by_cases c2:po=[]
   ·rw[dp (show(po.length:Int)=0 by rw[c2];rfl),cond_true,hcb.2 (.inl c2)]
   ·have:=lE.1 c2;rw[dn (show ¬(po.length:Int)=0 by omega),cond_false,tE po 1 (by omega),tE po (-1) (by omega)];simp only[cV1];by_cases c3:(1:Int)∈po
    ·rw[dp c3,cond_true,hcb.2 (.inr (.inl c3))]
    ·rw[dn c3,cond_false];by_cases c4:(-1:Int)∈po
     ·rw[dp c4,hcb.2 (.inr (.inr c4))]
     ·rw[dn c4,show cb=false by
       cases q:cb with
       | false=>rfl
       | true=>
        rcases hcb.1 q with z | z | z
        ·exact absurd z c2
        ·exact absurd z c3
        ·exact absurd z c4]
  ·rw[dn c1,cond_false,Bool.false_and]
 unfold inT at ht;intro n
 induction n with
 | zero=>intro x hn h0 h1 acc ha;exact stop x (by omega) acc
 | succ n ih=>
  intro x hn h0 h1 acc ha;by_cases hx:x<60
  ·have w1:w6 (x+r.2.1)=x+r.2.1:=wr (by omega) (by omega);have w2:w6 (t+x)=t+x:=wr (by omega) (by omega)
   have hstep:∀y:Int,t+x≤y→r.2.1∣y-t-x→y=t+x∨(t+(x+r.2.1)≤y∧r.2.1∣y-t-(x+r.2.1)):=fun y hy hd=>by
    obtain⟨k,hk⟩:=hd;by_cases ck:k≤0
    ·left;have:r.2.1*k≤0:=Int.mul_nonpos_of_nonneg_of_nonpos (by omega) ck;omega
    ·right;have h3:r.2.1*1≤r.2.1*k:=Int.mul_le_mul_of_nonneg_left (by omega) (by omega);rw[Int.mul_one]at h3;refine⟨by omega,k-1,?_⟩;rw[Int.mul_sub,Int.mul_one];omega
   have hback:∀y:Int,r.2.1∣y-t-(x+r.2.1)→r.2.1∣y-t-x:=fun y ⟨k,hk⟩=>⟨k+1,by rw[Int.mul_add,Int.mul_one];omega⟩
   rw[hcore x acc hx];cases hq:(decide (x∈c)&&cb)with
   | true=>
    rw[dV1,decide_eq_true_eq]at hq;obtain⟨L,g1,g2,g3⟩:=ih (x+r.2.1) (by omega) (by omega) (by omega) (acc++[t+x]) (by rw[tF];omega);refine⟨(t+x)::L,?_,uD.2 ⟨fun y hy=>?_,g2⟩,fun y=>?_⟩
    ·rw[lA.l2_eq,cond_true,w1,w2];simp(disch:=omega)only[ss,mW1,hlim];rw[g1,nV1];rfl
    ·have:=(g3 y).1 hy;omega
    ·rw[kV1,g3];constructor
     ·rintro(e | ⟨q1,q2,q3,q4⟩)
      ·subst e;exact⟨rX1 _,by omega,⟨0,by omega⟩,by rw[show t+x-t=x by omega];exact hq.1,hq.2⟩
      ·exact⟨by omega,q2,hback y q3,q4⟩
     ·rintro⟨q1,q2,q3,q4⟩;rcases hstep y q1 q3 with e | e
      ·exact .inl e
      ·exact .inr ⟨e.1,q2,e.2,q4⟩
   | false=>
    obtain⟨L,g1,g2,g3⟩:=ih (x+r.2.1) (by omega) (by omega) (by omega) acc (by omega);refine⟨L,?_,g2,fun y=>?_⟩
    ·rw[lA.l2_eq,cond_false,w1];exact g1
    ·rw[g3];constructor
     ·rintro⟨q1,q2,q3,q4⟩;exact⟨by omega,q2,hback y q3,q4⟩
     ·rintro⟨q1,q2,q3,q4,q5⟩;rcases hstep y q1 q3 with e | e
      ·rw[e,show t+x-t=x by omega]at q4;rw[dp q4,q5]at hq;cases hq
      ·exact⟨e.1,q2,e.2,q4,q5⟩
  ·exact stop x hx acc
theorem eD1 (d a b:Int) (hd: -719162≤d∧d≤2932896) (ha:a∈h) (hb:b∈m) (hF:F d=true) (c7:r.1=7):
  ∃L:List Int,L.length≤1000000∧(Rise L ∧ ∀x,x∈L↔picP r.2.1 r.2.2.2.2.2.2.2.2.2.2.2.2.2.2.1 s0 F pr h m c x∧d*86400+3600*a+60*b≤x∧x<d*86400+3600*a+60*b+60)∧lA.f P (d*86400+3600*a+60*b)=some (L,()):=by
 have ha0:=hP.oh.2.1 a ha;have hb0:=hP.om.2.1 b hb;have hiv:=hP.iv;have hS:=hP.inS;have htT:inT (d*86400+3600*a+60*b):=by unfold inT;omega
 obtain⟨t,ht⟩:∃t,d*86400+3600*a+60*b=t:=⟨_,rfl⟩
 obtain⟨cb,hcb⟩:∃cb:Bool,cb=true↔r.2.2.2.2.2.2.2.2.2.2.2.2.2.2.1=[]∨(1:Int)∈r.2.2.2.2.2.2.2.2.2.2.2.2.2.2.1∨(-1:Int)∈r.2.2.2.2.2.2.2.2.2.2.2.2.2.2.1:=⟨ind _,fH⟩
 have hx0:0≤(s0-t)%r.2.1:=Int.emod_nonneg _ (by omega);have hx1:(s0-t)%r.2.1<r.2.1:=mY1 _ (by omega);have htm:=Int.tmod_lt_of_pos (s0-t) (show 0<r.2.1 by omega);have htm2:=Int.lt_tmod_of_pos (s0-t) (show 0<r.2.1 by omega);unfold inT at htT hS;have hstart:Int.tmod (w6 (Int.tmod (w6 (s0-t)) r.2.1+r.2.1)) r.2.1=(s0-t)%r.2.1:=by rw[wr (x:=s0-t) (by omega) (by omega),wr (by omega) (by omega),Int.tmod_eq_emod_of_nonneg (by omega)];have e:=Int.mul_tdiv_add_tmod (s0-t) r.2.1;rw[show Int.tmod (s0-t) r.2.1+r.2.1=(s0-t)+r.2.1*(1-Int.tdiv (s0-t) r.2.1) by rw[Int.mul_sub,Int.mul_one];omega];exact Int.add_mul_emod_self_left _ _ _
 obtain⟨L,g1,g2,g3⟩:=qP1 hP t (by unfold inT;omega) cb hcb 60 ((s0-t)%r.2.1) (by omega) hx0 (by omega) [] (by simp;omega)
 have hlen:=zI g2 (a:=t) (b:=t+59) fun y hy=>by have:=(g3 y).1 hy;omega
 rw[ht];refine⟨L,by omega,⟨g2,fun x=>?_⟩,?_⟩
 ·rw[g3];have hdiv:r.2.1∣s0-t-(s0-t)%r.2.1:=⟨(s0-t)/r.2.1,by have:=Int.mul_ediv_add_emod (s0-t) r.2.1;omega⟩
  have hkey:t≤x→x<t+60→(inP r.2.1 s0 pr x↔t+(s0-t)%r.2.1≤x∧r.2.1∣x-t-(s0-t)%r.2.1):=fun q1 q2=>by
   unfold inP;rw[hP.p7 c7 x (by unfold inT;omega),hP.p7 c7 s0 hP.inS,←Int.dvd_iff_tmod_eq_zero];constructor
   ·intro q;have q':r.2.1∣x-t-(s0-t)%r.2.1:=by have:=Int.dvd_add q hdiv;rw[show x-s0+(s0-t-(s0-t)%r.2.1)=x-t-(s0-t)%r.2.1 by omega]at this;exact this
    refine⟨?_,q'⟩;obtain⟨k,hk⟩:=q';by_cases ck:k<0
    ·have h3:r.2.1*k≤r.2.1*(-1):=Int.mul_le_mul_of_nonneg_left (by omega) (by omega);omega
    ·have:0≤r.2.1*k:=Int.mul_nonneg (by omega) (by omega);omega
   ·rintro⟨_,q⟩;have:=Int.dvd_sub q hdiv;rw[show x-t-(s0-t)%r.2.1-(s0-t-(s0-t)%r.2.1)=x-s0 by omega]at this;exact this
  have hraw:t≤x→x<t+60→(rawP r.2.1 s0 F pr h m c x↔x-t∈c∧inP r.2.1 s0 pr x):=fun q1 q2=>by rw[mK hP d a x hd ha hF (by omega) (by omega),show(x-(d*86400+3600*a))/60=b by omega,show(x-(d*86400+3600*a))%60=x-t by omega];exact⟨fun q=>q.2,fun q=>⟨hb,q⟩⟩
  have hpl:rawP r.2.1 s0 F pr h m c x→((r.2.2.2.2.2.2.2.2.2.2.2.2.2.2.1=[] ∨ ∃G:List Int,Rise G∧(∀y,y∈G↔rawP r.2.1 s0 F pr h m c y∧pr y=pr x)∧qY r.2.2.2.2.2.2.2.2.2.2.2.2.2.2.1 (G.take 100001) x)↔cb=true):=fun q=>by
   have hG:∀G:List Int,Rise G→(∀y,y∈G↔rawP r.2.1 s0 F pr h m c y∧pr y=pr x)→G=[x]:=fun G z1 z2=>by
    refine rK z1 (uD.2 ⟨fun y hy=>absurd hy (by simp),mF⟩) fun y=>?_
    rw[z2,cW1];constructor
    ·rintro⟨w,w1⟩;rw[hP.p7 c7 y w.1,hP.p7 c7 x q.1]at w1;exact w1
    ·intro w;subst w;exact⟨q,rfl⟩
   rw[hcb];constructor
   ·rintro(z | ⟨G,z1,z2,z3⟩)
    ·exact .inl z
    ·rw[hG G z1 z2]at z3;obtain⟨_,i,i1,i2,i3⟩:=z3;have:i=0:=by simpa using i1
     subst this;rcases i3 with i3 | i3
     ·exact .inr (.inl (by simpa using i3))
     ·exact .inr (.inr (by simpa using i3))
   ·rintro(z | z)
    ·exact .inl z
    ·refine .inr ⟨[x],uD.2 ⟨fun y hy=>absurd hy (by simp),mF⟩,fun y=>?_,?_⟩
     ·rw[cW1];constructor
      ·intro w;subst w;exact⟨q,rfl⟩
      ·rintro⟨w,w1⟩;rw[hP.p7 c7 y w.1,hP.p7 c7 x q.1]at w1;exact w1
     ·refine⟨by simp,0,by simp,rfl,?_⟩;rcases z with z | z
      ·exact .inl (by simpa using z)
      ·exact .inr (by simpa using z)
  unfold picP;constructor
  ·rintro⟨q1,q2,q3,q4,q5⟩;have hr:=(hraw (by omega) q2).2 ⟨q4,(hkey (by omega) q2).2 ⟨q1,q3⟩⟩;exact⟨⟨hr,(hpl hr).2 q5⟩,by omega,q2⟩
  ·rintro⟨⟨q,q1⟩,q2,q3⟩;have h1:=(hraw q2 q3).1 q;have h2:=(hkey q2 q3).1 h1.2;exact⟨h2.1,q3,h2.2,h1.1,(hpl q).1 q1⟩
 ·rw[lA.f_eq,hP.er,hP.es,hstart,dn (show ¬r.2.1=0 by omega),qW1,cond_true,cond_true];rw[uV1]at g1;exact g1
end
structure RefOK (r:Rl) (s:Int) (F:Int→Bool) (pr:Int→Int) (h m c:List Int):Prop where
 right:∀t,inT t→eC.f r t=some (true,())
 times:mD.f r s=some (h,m,c,())
 num:∀t,inT t→iC.f r t=some (pr t,())
 fits:∀n,-719162≤n∧n≤2932896→dA.f r s n=some (F n,())
section
variable (f iv ct un wkst : Int) (en : Bool) (mo we yd md : List Int) (dy : List Dy) (ho mi se po : List Int)
theorem uR1 (s:Int) (hs:kL mo we yd md dy ho mi se po) (hM:mA.f (f,iv,ct,un,wkst,en,mo,we,yd,md,dy,ho,mi,se,po,())=some (true,())) (ht:inT s):
  RefOK (f,iv,ct,un,wkst,en,mo,we,yd,md,dy,ho,mi,se,po,()) s (tK f wkst mo we yd md dy s) (per f wkst we) (sJ f ho s) (tP f mi s) (xP f se s):=by
 have hp:=uQ1 (r:=(f,iv,ct,un,wkst,en,mo,we,yd,md,dy,ho,mi,se,po,())) hs hM;dsimp only at hp;obtain⟨⟨⟨f1,f2,_,_,_,_,w1_,w2_⟩,_,_⟩,⟨_,_,_,_,_,_,_,_,hdwi⟩,_⟩:=hp;have hV:bA.f (f,iv,ct,un,wkst,en,mo,we,yd,md,dy,ho,mi,se,po,())=some (true,()):=by rw[←wQ _ hs];exact hM
 have hr:∀t,inT t→eC.f (f,iv,ct,un,wkst,en,mo,we,yd,md,dy,ho,mi,se,po,()) t=some (true,()):=fun t h=>by rw[eC.f_eq,hV,(tH t).2,dp h];rfl
 have hs':=hs;obtain⟨k1,k2,k3,k4,k5,k6,k7,k8,k9⟩:=hs';refine⟨hr,?_,fun t h=>?_,fun n hn=>oJ1 f iv ct un wkst en mo we yd md dy ho mi se po s n hs ⟨w1_,w2_⟩ f1 (fun x hx h0=>?_) ht hn⟩
 ·have hD:=(oD s (by unfold inT at ht;omega) (by unfold inT at ht;omega)).2;have hb:0≤s%86400∧s%86400≤86399:=by omega
  have t1:w6 (Int.tdiv (s%86400) 3600)=s%86400/3600:=by rw[tdn hb.1,wr (by omega) (by omega)]
  have t2:Int.tmod (w6 (Int.tdiv (s%86400) 60)) 60=s%86400/60%60:=by rw[tdn hb.1,wr (by omega) (by omega),tmn (by omega)]
  have t3:Int.tmod (s%86400) 60=s%86400%60:=tmn hb.1 _;have a1:=(dI ho (decide (f≤4)) (s%86400/3600) 24 (by omega) (by omega)).2;have a2:=(dI mi (decide (f≤5)) (s%86400/60%60) 60 (by omega) (by omega)).2;have a3:=(dI se (decide (f≤6)) (s%86400%60) 60 (by omega) (by omega)).2;rw[show((24:Nat):Int)=24 from rfl]at a1;rw[show((60:Nat):Int)=60 from rfl]at a2 a3;rw[mD.f_eq,hr s ht,hD];simp(disch:=omega)only[ss,t1,t2,t3,a1,a2,a3];rfl
 ·obtain⟨k,h1,_,_,h4⟩:=yD1 f iv ct un wkst en mo we yd md dy ho mi se po t h ⟨f1,f2⟩ ⟨w1_,w2_⟩ (by omega);rw[h4,sU h1]
 ·obtain⟨j,hj,e⟩:=List.getElem_of_mem hx;have e2:gD dy j=x:=by unfold gD;rw[mV1,rV1 hj,e];rfl
  have:=hdwi.2 j hj;unfold numd at this;rw[e2]at this;rcases this h0 with q | q
  ·exact .inl q
  ·exact .inr q.1
end
section
variable {P : PlT} {r : Rl} {s : Int} {F : Int → Bool} {pr : Int → Int} {h m c : List Int} (hP : PlanOK P r s F pr h m c) (hV : RefOK r s F pr h m c)
include hP hV
theorem uH1 (t:Int) (ht:inT t):kE.f r s t=some (decide (inP r.2.1 s pr t),()):=by have hiv:=hP.iv;have b1:=hP.bd t ht;have b2:=hP.bd s hP.inS;rw[kE.f_eq,hV.num t ht,hV.num s hP.inS];simp(disch:=omega)only[ss]
theorem lC1 (n x y:Int) (hf:r.1≤4) (hx:inT x) (hy:inT y) (h1:x/86400=n) (h2:y/86400=n):pr x=pr y:=by have _:=hV;obtain⟨A,B,_,g2,g3,_⟩:=hP.days y hy;exact(g3 hf x hx).2 ⟨by omega,by omega⟩
theorem lL1 (n a b x:Int) (hn: -719162≤n∧n≤2932896) (ha:0≤a∧a≤23) (hb:0≤b∧b≤59) (hx:0≤x∧x≤59) (hf:r.1≤6):pr (n*86400+3600*a+60*b+x)=pr (n*86400+3600*a+60*b):=by
 have h1:inT (n*86400+3600*a+60*b+x):=by unfold inT;omega
 have h2:inT (n*86400+3600*a+60*b):=by unfold inT;omega
 by_cases c4:r.1≤4
 ·exact lC1 hP hV n _ _ c4 h1 h2 (by omega) (by omega)
 ·by_cases c5:r.1=5
  ·rw[hP.p5 c5 _ h1,hP.p5 c5 _ h2];omega
  ·have c6:r.1=6:=by omega
   rw[hP.p6 c6 _ h1,hP.p6 c6 _ h2];omega
def XL (iv s:Int) (pr:Int→Int) (n a b:Int) (c:List Int):List Int:=(c.map fun x=>n*86400+3600*a+60*b+x).filter fun t=>decide (inP iv s pr t)
omit hP hV in
theorem eO1 (iv s:Int) (pr:Int→Int) (n a b:Int) (c:List Int):(XL iv s pr n a b c).length≤c.length:=by unfold XL;exact yW1 (List.length_filter_le _ _) (by rw[vW1];exact tV1 _)
theorem sT1 (n M:Int) (hn: -719162≤n∧n≤2932896) (hM:86400≤M∧M≤1000000) (i j:Nat) (hi:i<h.length) (hj:j<m.length) (hi24:i<24) (hj60:j<60):∀(q k:Nat),c.length-k=q→k≤c.length → ∀acc:List Int,acc.length≤(i*60+j)*60+k →
  gA.l7 s n M h m c (i:Int) (j:Int) (k:Int) r acc=gA.l4 s n M h m c (i:Int) ((j:Int)+1) r (acc++XL r.2.1 s pr n (h.getD i 0) (m.getD j 0) (c.drop k)):=by
 have hlim:eD=17179869184:=rfl;have ha:=hP.oh.2.1 _ (eE hi);have hb:=hP.om.2.1 _ (eE hj);have lc:=hP.oc.2.2;have lh:=hP.oh.2.2;have lm:=hP.om.2.2;intro q
 induction q with
 | zero=>
  intro k hk hkc acc hacc;have e:k=c.length:=by omega
  subst e;rw[gA.l7_eq,iW1];simp(disch:=omega)only[ss];unfold XL;rw[eY1,List.filter_nil,sV1]
 | succ q ih=>
  intro k hk hkc acc hacc;have hlt:k<c.length:=by omega
  have hx:=hP.oc.2.1 _ (eE hlt);rw[gA.l7_eq,xV1,xV1,xV1,tB 0 hlt];generalize h.getD i 0=a at ha ih ⊢;generalize m.getD j 0=b at hb ih ⊢;generalize c.getD k 0=x at hx ⊢;have w1_:w6 (n*86400)=n*86400:=wr (by omega) (by omega);have w2_:w6 ((3600:Int)*a)=3600*a:=wr (by omega) (by omega);have w3_:w6 ((60:Int)*b)=60*b:=wr (by omega) (by omega);have w4_:w6 (n*86400+3600*a)=n*86400+3600*a:=wr (by omega) (by omega);have w5_:w6 (n*86400+3600*a+60*b)=n*86400+3600*a+60*b:=wr (by omega) (by omega);have w6_:w6 (n*86400+3600*a+60*b+x)=n*86400+3600*a+60*b+x:=wr (by omega) (by omega);have hT:=uH1 hP hV (n*86400+3600*a+60*b+x) (by unfold inT;omega);rw[w1_,w2_,w3_,w4_,w5_,w6_,hT];have ih1:=fun acc hacc=>ih (k+1) (by omega) (by omega) acc hacc
  rw[pV1,qV1]at ih1
  have hXL:XL r.2.1 s pr n a b (x::c.drop (k+1))=if inP r.2.1 s pr (n*86400+3600*a+60*b+x)then(n*86400+3600*a+60*b+x)::XL r.2.1 s pr n a b (c.drop (k+1))else XL r.2.1 s pr n a b (c.drop (k+1)):=by
   unfold XL;rw[jW1,List.filter_cons];by_cases cc:inP r.2.1 s pr (n*86400+3600*a+60*b+x)
   ·rw[dp cc,if_pos rfl,if_pos cc]
   ·rw[dn cc,if_neg (by simp),if_neg cc]
  rw[hXL];by_cases cc:inP r.2.1 s pr (n*86400+3600*a+60*b+x)
  ·have:=ih1 (acc++[n*86400+3600*a+60*b+x]) (by rw[tF];omega);have hl1:(acc++[n*86400+3600*a+60*b+x]).length=acc.length+1:=tF _ _;rw[if_pos cc,dp cc];simp(disch:=omega)only[ss,mW1,hlim,gA.l8_eq,hl1];rw[this,nV1];rfl
  ·have:=ih1 acc (by omega);rw[if_neg cc,dn cc];simp(disch:=omega)only[ss,gA.l8_eq];exact this
theorem yT1 (n M:Int) (hn: -719162≤n∧n≤2932896) (hM:86400≤M∧M≤1000000) (i:Nat) (hi:i<h.length) (hi24:i<24):∀(q j:Nat),m.length-j=q→j≤m.length → ∀acc:List Int,acc.length≤(i*60+j)*60 →
  gA.l4 s n M h m c (i:Int) (j:Int) r acc=gA.l3 s n M h m c ((i:Int)+1) r (acc++(m.drop j).flatMap fun b=>XL r.2.1 s pr n (h.getD i 0) b c):=by
 have ha:=hP.oh.2.1 _ (eE hi);have lc:=hP.oc.2.2;have lh:=hP.oh.2.2;have lm:=hP.om.2.2;intro q
 induction q with
 | zero=>
  intro j hj hjm acc hacc;have e:j=m.length:=by omega
  subst e;rw[gA.l4_eq,iW1];simp(disch:=omega)only[ss];rw[List.flatMap_nil,sV1]
 | succ q ih=>
  intro j hj hjm acc hacc;have hlt:j<m.length:=by omega
  have hb:=hP.om.2.1 _ (eE hlt);have ih1:=fun acc hacc=>ih (j+1) (by omega) (by omega) acc hacc
  rw[pV1,qV1]at ih1;have h7:=sT1 hP hV n M hn hM i j hi hlt hi24 (by omega) c.length 0 (by omega) (hV1 _) acc (by omega);rw[oV1,fW1]at h7
  have go:gA.l5 s n M h m c (i:Int) (j:Int) false r acc=gA.l3 s n M h m c ((i:Int)+1) r (acc++(m.drop j).flatMap fun b=>XL r.2.1 s pr n (h.getD i 0) b c):=by have hl:=eO1 r.2.1 s pr n (h.getD i 0) (m.getD j 0) c;rw[gA.l5_eq,cond_false,gA.l6_eq,h7,ih1 _ (by rw[gV1];omega),tB 0 hlt,xW1,nV1]
  rw[gA.l4_eq];by_cases c6:r.1≤6
  ·have hms:=lL1 hP hV n (h.getD i 0) (m.getD j 0);rw[xV1,xV1]
   have hXn:¬inP r.2.1 s pr (n*86400+3600*(h.getD i 0)+60*(m.getD j 0))→XL r.2.1 s pr n (h.getD i 0) (m.getD j 0) c=[]:=fun hno=>by unfold XL;rw[List.filter_eq_nil_iff];intro t ht;obtain⟨x,hx,rfl⟩:=yV1.1 ht;have hx2:=hP.oc.2.1 x hx;have e:=hms x hn ha hb hx2 c6;rw[decide_eq_true_eq];unfold inP at hno ⊢;rw[e];exact hno
   generalize hA:h.getD i 0=a at ha hXn go h7 ⊢;generalize hB:m.getD j 0=b at hb hXn h7 ⊢;have w1_:w6 (n*86400)=n*86400:=wr (by omega) (by omega);have w2_:w6 ((3600:Int)*a)=3600*a:=wr (by omega) (by omega);have w3_:w6 ((60:Int)*b)=60*b:=wr (by omega) (by omega);have w4_:w6 (n*86400+3600*a)=n*86400+3600*a:=wr (by omega) (by omega);have w5_:w6 (n*86400+3600*a+60*b)=n*86400+3600*a+60*b:=wr (by omega) (by omega);have hT:=uH1 hP hV (n*86400+3600*a+60*b) (by unfold inT;omega);rw[w1_,w2_,w3_,w4_,w5_,hT];by_cases cc:inP r.2.1 s pr (n*86400+3600*a+60*b)
   ·rw[dp cc];simp(disch:=omega)only[ss];exact go
   ·rw[dn cc];simp(disch:=omega)only[ss,gA.l5_eq];rw[tB 0 hlt,xW1,hB,hXn cc,uV1];rw[hA]at ih1;exact ih1 acc (by omega)
  ·simp(disch:=omega)only[ss];exact go
theorem aU1 (n M:Int) (hn: -719162≤n∧n≤2932896) (hM:86400≤M∧M≤1000000) (h24:h.length≤24):∀(q i:Nat),h.length-i=q→i≤h.length → ∀acc:List Int,acc.length≤i*60*60 →
  gA.l3 s n M h m c (i:Int) r acc=some (acc++(h.drop i).flatMap fun a=>m.flatMap fun b=>XL r.2.1 s pr n a b c,()):=by
 have lc:=hP.oc.2.2;have lm:=hP.om.2.2;intro q
 induction q with
 | zero=>
  intro i hi hih acc hacc;have e:i=h.length:=by omega
  subst e;rw[gA.l3_eq,iW1];simp(disch:=omega)only[ss];rw[List.flatMap_nil,sV1]
 | succ q ih=>
  intro i hi hih acc hacc;have hlt:i<h.length:=by omega
  have h4:=yT1 hP hV n M hn hM i hlt (by omega) m.length 0 (by omega) (hV1 _) acc (by omega);rw[oV1,fW1]at h4
  have hb:((m.flatMap fun b=>XL r.2.1 s pr n (h.getD i 0) b c)).length≤m.length*60:=by
   have:∀l:List Int,(l.flatMap fun b=>XL r.2.1 s pr n (h.getD i 0) b c).length≤l.length*60:=fun l=>by
    induction l with
    | nil=>exact tV1 _
    | cons b l ihl=>
     have:=eO1 r.2.1 s pr n (h.getD i 0) b c;rw[xW1,gV1,eW1];omega
   exact this m
  have ih1:=ih (i+1) (by omega) (by omega) (acc++m.flatMap fun b=>XL r.2.1 s pr n (h.getD i 0) b c) (by rw[gV1];omega);rw[pV1,qV1]at ih1;rw[gA.l3_eq];simp(disch:=omega)only[ss];rw[h4,ih1,tB 0 hlt,xW1,nV1]
theorem vI1 (n M:Int) (hn: -719162≤n∧n≤2932896) (hM:86400≤M∧M≤1000000):gA.f r s n M=some (memL (rawP r.2.1 s F pr h m c) (n*86400) (n*86400+86400),()):=by
 have h24:h.length≤24:=by have:=zI hP.oh.1 (a:=0) (b:=23) hP.oh.2.1;omega
 have l1t:gA.l1 s n M true r []=some ([],()):=by rw[gA.l1_eq,cond_true]
 have hin:∀x,n*86400≤x→x<n*86400+86400→x/86400=n:=fun x h1 h2=>by omega
 have none_of:(∀x,n*86400≤x→x<n*86400+86400 → ¬rawP r.2.1 s F pr h m c x)→(some (([]:List Int),()):Option (List Int×Unit))=some (memL (rawP r.2.1 s F pr h m c) (n*86400) (n*86400+86400),()):=fun q=>by rw[iY _ q]
 have full:F n=true→gA.l1 s n M false r []=some (memL (rawP r.2.1 s F pr h m c) (n*86400) (n*86400+86400),()):=fun hF=>by
  have h3:=aU1 hP hV n M hn hM h24 h.length 0 (by omega) (hV1 _) [] (hV1 _);rw[oV1,fW1,uV1]at h3;rw[gA.l1_eq,cond_false,gA.l2_eq,hV.times];simp only[cV1];rw[h3]
  have e:(h.flatMap fun a=>m.flatMap fun b=>XL r.2.1 s pr n a b c)=((tod h m c).map fun x=>n*86400+x).filter fun t=>decide (inP r.2.1 s pr t):=by
   unfold tod XL;rw[List.map_flatMap,List.filter_flatMap]
   congr 1
   funext a
   rw[List.map_flatMap,List.filter_flatMap]
   congr 1
   funext b
   rw[List.map_map]
   congr 1
   refine zX1 fun x _=>?_
   simp only[Function.comp];omega
  rw[e,eJ (rawP r.2.1 s F pr h m c) (a:=n*86400) (b:=n*86400+86400) (List.Pairwise.sublist aY1 (bQ (iC1 hP.oh.1 hP.om.1 hP.oc.1 hP.om.2.1 hP.oc.2.1) (fun x=>n*86400+x) fun x y q=>by omega)) fun x=>?_];rw[jX1,yV1,decide_eq_true_eq];unfold rawP;constructor
  ·rintro⟨⟨y,hy,rfl⟩,h2⟩;have hb:=jO1 hP.oh.2.1 hP.om.2.1 hP.oc.2.1 y hy;have e1:(n*86400+y)%86400=y:=by omega
   have e2:(n*86400+y)/86400=n:=by omega
   rw[e1,e2];exact⟨⟨by unfold inT;omega,hy,h2,hF⟩,by omega,by omega⟩
  ·rintro⟨⟨h1,h2,h3,h4⟩,h5,h6⟩;exact⟨⟨x%86400,h2,by omega⟩,h3⟩
 rw[gA.f_eq,hV.fits n hn];simp only[cV1]
 cases hF:F n with
 | false=>
  rw[qW1,cond_true,l1t];refine none_of fun x h1 h2 q=>?_
  have:=q.2.2.2;rw[hin x h1 h2,hF]at this;cases this
 | true=>
  rw[jV1,cond_false];by_cases c4:r.1≤4
  ·have hT:=uH1 hP hV (n*86400) (by unfold inT;omega);rw[dp c4,cond_true,wr (by omega) (by omega),hT];simp only[cV1];by_cases cc:inP r.2.1 s pr (n*86400)
   ·rw[dp cc,jV1];exact full hF
   ·rw[dn cc,qW1,l1t];refine none_of fun x h1 h2 q=>cc ?_
    have e:=lC1 hP hV n (n*86400) x c4 (by unfold inT;omega) q.1 (by omega) (hin x h1 h2);have:=q.2.2.1;unfold inP at this ⊢;rw[e];exact this
  ·rw[dn c4,cond_false];exact full hF
theorem lP1 (t A B:Int) (ht:inT t) (hf:r.1≤4) (g2:A≤t/86400∧t/86400≤B ∧ -719162≤A∧B≤2932896) (g3:∀x,inT x→(pr x=pr t↔A≤x/86400∧x/86400≤B)):∀(k:Nat) (a:Int),a-A=k→a≤t/86400 →
  tA.l1 a (t/86400) (pr t) r=tA.l3 A (t/86400) (pr t) r:=by
 have _:=hP;have _:=hf;have hd:=iH ht;intro k
 induction k with
 | zero=>
  intro a ha hat;have e:a=A:=by omega
  subst e;rw[tA.l1_eq,wr (show _≤a-1 by omega) (by omega),wr (by omega) (by omega),(tH ((a-1)*86400)).2];by_cases c1: -719162≤a-1
  ·have hi:inT ((a-1)*86400):=by unfold inT;omega
   have hne:¬pr ((a-1)*86400)=pr t:=fun q=>by have:=(g3 _ hi).1 q;omega
   rw[dp (show -62135596800≤(a-1)*86400∧(a-1)*86400≤253402300799 from hi),hV.num _ hi];simp(disch:=omega)only[ss,tA.l2_eq]
  ·rw[dn (show ¬(-62135596800≤(a-1)*86400∧(a-1)*86400≤253402300799) by omega)];simp(disch:=omega)only[ss,tA.l2_eq]
 | succ k ih=>
  intro a ha hat;have hi:inT ((a-1)*86400):=by unfold inT;omega
  have he:pr ((a-1)*86400)=pr t:=(g3 _ hi).2 (by omega);rw[tA.l1_eq,wr (show _≤a-1 by omega) (by omega),wr (by omega) (by omega),(tH ((a-1)*86400)).2,dp (show -62135596800≤(a-1)*86400∧(a-1)*86400≤253402300799 from hi),hV.num _ hi];simp(disch:=omega)only[ss,tA.l2_eq];exact ih (a-1) (by omega) (by omega)
theorem xO1 (t A B:Int) (ht:inT t) (g2:A≤t/86400∧t/86400≤B ∧ -719162≤A∧B≤2932896) (g3:∀x,inT x→(pr x=pr t↔A≤x/86400∧x/86400≤B)):∀(k:Nat) (b:Int),B-b=k→t/86400≤b →
  tA.l4 A b (pr t) r=some (A,B,()):=by
 have _:=hP;have hd:=iH ht;intro k
 induction k with
 | zero=>
  intro b hb hbt;have e:b=B:=by omega
  subst e;rw[tA.l4_eq,wr (show _≤b+1 by omega) (by omega),wr (by omega) (by omega),(tH ((b+1)*86400)).2];by_cases c1:b+1≤2932896
  ·have hi:inT ((b+1)*86400):=by unfold inT;omega
   have hne:¬pr ((b+1)*86400)=pr t:=fun q=>by have:=(g3 _ hi).1 q;omega
   rw[dp (show -62135596800≤(b+1)*86400∧(b+1)*86400≤253402300799 from hi),hV.num _ hi];simp(disch:=omega)only[ss,tA.l5_eq]
  ·rw[dn (show ¬(-62135596800≤(b+1)*86400∧(b+1)*86400≤253402300799) by omega)];simp(disch:=omega)only[ss,tA.l5_eq]
 | succ k ih=>
  intro b hb hbt;have hi:inT ((b+1)*86400):=by unfold inT;omega
  have he:pr ((b+1)*86400)=pr t:=(g3 _ hi).2 (by omega);rw[tA.l4_eq,wr (show _≤b+1 by omega) (by omega),wr (by omega) (by omega),(tH ((b+1)*86400)).2,dp (show -62135596800≤(b+1)*86400∧(b+1)*86400≤253402300799 from hi),hV.num _ hi];simp(disch:=omega)only[ss,tA.l5_eq];exact ih (b+1) (by omega) (by omega)
theorem xJ1 (t:Int) (ht:inT t):∃A B,tA.f r t=some (A,B,())∧(A≤t/86400∧t/86400≤B ∧ -719162≤A∧B≤2932896) ∧ ∀x,inT x→pr x=pr t→A≤x/86400∧x/86400≤B:=by
 obtain⟨A,B,_,g2,g3,g4⟩:=hP.days t ht;have hD:=(oD t (by unfold inT at ht;omega) (by unfold inT at ht;omega)).2;refine⟨A,B,?_,g2,?_⟩
 ·rw[tA.f_eq,hV.right t ht,hD];by_cases c4:r.1≤4
  ·have a1:=lP1 hP hV t A B ht c4 g2 (g3 c4) (t/86400-A).toNat (t/86400) (by omega) (rX1 _);have a2:=xO1 hP hV t A B ht g2 (g3 c4) (B-t/86400).toNat (t/86400) (by omega) (rX1 _);have hN:=hV.num t ht;simp(disch:=omega)only[ss,hN,a1,tA.l3_eq,a2]
  ·obtain⟨e1,e2⟩:=g4 (by omega);simp(disch:=omega)only[ss,e1,e2]
 ·intro x hx he;by_cases c4:r.1≤4
  ·exact(g3 c4 x hx).1 he
  ·obtain⟨e1,e2⟩:=g4 (by omega);have hfr:=hP.fr;by_cases c5:r.1=5
   ·rw[hP.p5 c5 x hx,hP.p5 c5 t ht]at he;omega
   ·by_cases c6:r.1=6
    ·rw[hP.p6 c6 x hx,hP.p6 c6 t ht]at he;omega
    ·have c7:r.1=7:=by omega
     rw[hP.p7 c7 x hx,hP.p7 c7 t ht]at he;omega
theorem fT1 (t:Int) (ht:inT t) (n B:Int) (hn: -719162≤n∧n≤2932896) (l:List Int) (hl:l.length≤86400) (hT:∀x∈l,inT x):∀(q k:Nat),l.length-k=q→k≤l.length → ∀acc:List Int,acc.length≤100000+k →
  lB.l3 s t 100000 B n l (k:Int) r acc=(bif decide (((acc++(l.drop k).filter fun x=>decide (pr x=pr t)).length:Int)>100000)then some ([],10,())else lB.l2 s t 100000 B (n+1) r (acc++(l.drop k).filter fun x=>decide (pr x=pr t))):=by
 have hlim:eD=17179869184:=rfl;have _:=hP;intro q
 induction q with
 | zero=>
  intro k hk hkl acc hacc;have e:k=l.length:=by omega
  subst e;rw[lB.l3_eq,iW1,List.filter_nil,sV1];simp(disch:=omega)only[ss]
 | succ q ih=>
  intro k hk hkl acc hacc;have hlt:k<l.length:=by omega
  have hx:=hT _ (eE hlt);have ih1:=fun acc hacc=>ih (k+1) (by omega) (by omega) acc hacc
  rw[pV1,qV1]at ih1;rw[lB.l3_eq,xV1,tB 0 hlt,List.filter_cons];generalize l.getD k 0=x at hx ⊢;rw[hV.num x hx,hV.num t ht];by_cases cc:pr x=pr t
  ·have:=ih1 (acc++[x]) (by rw[tF];omega);rw[dp cc,if_pos rfl];simp(disch:=omega)only[ss,mW1,hlim];rw[this,nV1];rfl
  ·rw[dn cc,if_neg (by simp)];simp(disch:=omega)only[ss];exact ih1 acc (by omega)
theorem nS1 (t:Int) (ht:inT t) (B:Int) (hB:B≤2932896):∀(q:Nat) (n:Int),(B+1-n).toNat=q → -719162≤n→n≤B+1 → ∀acc:List Int,acc.length≤100000 →
  ∃cd,lB.l2 s t 100000 B n r acc=some (if(acc++memL (fun x=>rawP r.2.1 s F pr h m c x∧pr x=pr t) (n*86400) ((B+1)*86400)).length>100000 then []else acc++memL (fun x=>rawP r.2.1 s F pr h m c x∧pr x=pr t) (n*86400) ((B+1)*86400),cd,()):=by
 intro q
 induction q with
 | zero=>
  intro n hq hn1 hn2 acc hacc;have e:n=B+1:=by omega
  subst e;rw[dK _ (rX1 _),sV1,if_neg (by omega),lB.l2_eq,dn (show ¬B+1≤B by omega),cond_false];exact⟨0,rfl⟩
 | succ q ih=>
  intro n hq hn1 hn2 acc hacc;have hO:=vI1 hP hV n 100000 ⟨hn1,by omega⟩ (by omega);have hR:=cE (rawP r.2.1 s F pr h m c) (n*86400) (n*86400+86400);have hm:=fun x=>yD (rawP r.2.1 s F pr h m c) (a:=n*86400) (b:=n*86400+86400) (x:=x)
  have hX:((memL (rawP r.2.1 s F pr h m c) (n*86400) (n*86400+86400)).filter fun x=>decide (pr x=pr t))=memL (fun x=>rawP r.2.1 s F pr h m c x∧pr x=pr t) (n*86400) ((n+1)*86400):=
   eJ _ (List.Pairwise.sublist aY1 hR) fun x=>by
    rw[jX1,hm,decide_eq_true_eq];constructor
    ·rintro⟨⟨q1,q2,q3⟩,q4⟩;exact⟨⟨q1,q4⟩,q2,by omega⟩
    ·rintro⟨⟨q1,q4⟩,q2,q3⟩;exact⟨⟨q1,q2,by omega⟩,q4⟩
  have hsp:=aU (fun x=>rawP r.2.1 s F pr h m c x∧pr x=pr t) (a:=n*86400) (b:=(n+1)*86400) (c:=(B+1)*86400) (by omega) (by omega);have hlen:(memL (rawP r.2.1 s F pr h m c) (n*86400) (n*86400+86400)).length≤86400:=by
   have:=zI hR (a:=n*86400) (b:=n*86400+86399) fun x hx=>by have:=(hm x).1 hx;omega
   omega
  have h3:=fT1 hP hV t ht n B ⟨hn1,by omega⟩ _ hlen (fun x hx=>((hm x).1 hx).1.1) _ 0 rfl (hV1 _) acc (by omega);rw[oV1,fW1,hX]at h3;rw[lB.l2_eq,dp (show n≤B by omega),cond_true,hO];simp only[cV1];rw[h3,←hsp];by_cases cc:(acc++memL (fun x=>rawP r.2.1 s F pr h m c x∧pr x=pr t) (n*86400) ((n+1)*86400)).length>100000
  ·rw[dp (show((acc++memL (fun x=>rawP r.2.1 s F pr h m c x∧pr x=pr t) (n*86400) ((n+1)*86400)).length:Int)>100000 by omega),cond_true,if_pos]
   ·exact⟨10,rfl⟩
   ·rw[←nV1,gV1];omega
  ·rw[dn (show ¬((acc++memL (fun x=>rawP r.2.1 s F pr h m c x∧pr x=pr t) (n*86400) ((n+1)*86400)).length:Int)>100000 by omega),cond_false];obtain⟨cd,hcd⟩:=ih (n+1) (by omega) (by omega) (by omega) (acc++memL (fun x=>rawP r.2.1 s F pr h m c x∧pr x=pr t) (n*86400) ((n+1)*86400)) (by omega);rw[nV1]at hcd;exact⟨cd,hcd⟩
theorem iM1 (t:Int) (ht:inT t):∃G:List Int,Rise G∧(∀x,x∈G↔rawP r.2.1 s F pr h m c x∧pr x=pr t) ∧ ∃cd,lB.f r s t 100000=some (if G.length>100000 then []else G,cd,()):=by
 obtain⟨A,B,g1,g2,g3⟩:=xJ1 hP hV t ht;have hin:=hP.inS;obtain⟨cd,h2⟩:=nS1 hP hV t ht B g2.2.2.2 (B+1-A).toNat A rfl g2.2.2.1 (by omega) [] (hV1 _);rw[uV1]at h2;refine⟨memL (fun x=>rawP r.2.1 s F pr h m c x∧pr x=pr t) (A*86400) ((B+1)*86400),cE _ _ _,fun x=>?_,cd,?_⟩
 ·rw[yD];refine⟨fun q=>q.1,fun q=>⟨q,?_⟩⟩;have:=g3 x q.1.1 q.2;omega
 ·rw[lB.f_eq,hV.right s hin,(tH t).2,dp (show -62135596800≤t∧t≤253402300799 from ht)];simp(disch:=omega)only[ss,lB.l1_eq,g1];exact h2
theorem zK1 (l:List Int) (t:Int) (hr:Rise l) (hl:l.length≤1000000):dC.f r l t=some (ind (∃i:Nat,i<l.length∧l.getD i 0=t∧((i:Int)+1∈r.2.2.2.2.2.2.2.2.2.2.2.2.2.2.1∨(i:Int)-(l.length:Int)∈r.2.2.2.2.2.2.2.2.2.2.2.2.2.2.1)),()):=by
 have _:=hV;have lp:=hP.lp;have key:∀(q i:Nat),l.length-i=q→i≤l.length→(∀j,j<i → ¬l.getD j 0=t)→dC.l1 l t (i:Int) r=some (ind (∃i:Nat,i<l.length∧l.getD i 0=t∧((i:Int)+1∈r.2.2.2.2.2.2.2.2.2.2.2.2.2.2.1∨(i:Int)-(l.length:Int)∈r.2.2.2.2.2.2.2.2.2.2.2.2.2.2.1)),()):=by
  intro q
  induction q with
  | zero=>
   intro i hq hi hno;have e:i=l.length:=by omega
   subst e;rw[dC.l1_eq];simp(disch:=omega)only[ss];rw[sP];rintro⟨j,h1,h2,_⟩;exact hno j h1 h2
  | succ q ih=>
   intro i hq hi hno;have hlt:i<l.length:=by omega
   rw[dC.l1_eq,xV1];by_cases ce:l.getD i 0=t
   ·rw[dp ce,sN _ _ (by omega)];by_cases c1:(i:Int)+1∈r.2.2.2.2.2.2.2.2.2.2.2.2.2.2.1
    ·rw[iW ⟨i,hlt,ce,.inl c1⟩];simp(disch:=omega)only[ss,dp c1]
    ·have w1_:w6 ((i:Int)-(l.length:Int))=(i:Int)-(l.length:Int):=wr (by omega) (by omega);have hs2:=sN r.2.2.2.2.2.2.2.2.2.2.2.2.2.2.1 ((i:Int)-(l.length:Int)) (by omega);by_cases c2:(i:Int)-(l.length:Int)∈r.2.2.2.2.2.2.2.2.2.2.2.2.2.2.1
     ·rw[iW ⟨i,hlt,ce,.inr c2⟩];simp(disch:=omega)only[ss,dn c1,w1_,hs2,dp c2]
     ·rw[sP]
      ·simp(disch:=omega)only[ss,dn c1,w1_,hs2,dn c2]
      ·rintro⟨j,h1,h2,h3⟩;have e:i=j:=gD1 hr hlt h1 (by rw[ce,h2]);subst e;rcases h3 with h3 | h3
       ·exact c1 h3
       ·exact c2 h3
   ·have ih1:=ih (i+1) (by omega) (by omega) fun j hj=>by
     by_cases e:j=i
     ·subst e;exact ce
     ·exact hno j (by omega)
    rw[pV1,qV1]at ih1;rw[dn ce];simp(disch:=omega)only[ss];exact ih1
 have:=key l.length 0 (by omega) (hV1 _) fun j hj=>by omega
 rw[oV1]at this;rw[dC.f_eq];exact this
theorem xS (t:Int) (ht:inT t):∃S:List Int,(∃cd,lB.f r s t 100000=some (S,cd,())) ∧ ∀u,inT u→pr u=pr t→dC.f r S u=some (ind (∃G:List Int,Rise G∧(∀x,x∈G↔rawP r.2.1 s F pr h m c x∧pr x=pr u)∧qY r.2.2.2.2.2.2.2.2.2.2.2.2.2.2.1 (G.take 100001) u),()):=by
 obtain⟨G,g1,g2,cd,g3⟩:=iM1 hP hV t ht;refine⟨_,⟨cd,g3⟩,fun u hu he=>?_⟩;have uniq:∀G':List Int,Rise G'→(∀x,x∈G'↔rawP r.2.1 s F pr h m c x∧pr x=pr u)→G'=G:=fun G' q1 q2=>rK q1 g1 fun x=>by rw[q2,g2,he]
 by_cases cl:G.length>100000
 ·rw[if_pos cl,zK1 hP hV [] u mF (hV1 _),sP,sP]
  ·rintro⟨G',q1,q2,q3,_⟩;rw[uniq G' q1 q2,aW1]at q3;omega
  ·rintro⟨i,q,_⟩;exact absurd q (by simp)
 ·rw[if_neg cl,zK1 hP hV G u g1 (by omega)];by_cases cc:∃i:Nat,i<G.length∧G.getD i 0=u∧((i:Int)+1∈r.2.2.2.2.2.2.2.2.2.2.2.2.2.2.1∨(i:Int)-(G.length:Int)∈r.2.2.2.2.2.2.2.2.2.2.2.2.2.2.1)
  ·rw[iW cc,iW];refine⟨G,g1,fun x=>by rw[g2,he],?_⟩;rw[lV1 (by omega)];exact⟨by omega,cc⟩
  ·rw[sP cc,sP];rintro⟨G',q1,q2,q3⟩;rw[uniq G' q1 q2,lV1 (by omega)]at q3;exact cc q3.2
end
end Go.GV.YtegmfagkklekaaaGreatDoor
