/-
Part of the words that MeetSpans is proved with: no statement of its own, no conditions.
-/
import Derived.Test.YtegmfagkklekaaaGreatDoorFMeetSpansq
set_option linter.unusedVariables false
set_option linter.unusedSimpArgs false
namespace Go.GV.YtegmfagkklekaaaGreatDoor
open Go.Proofs
def isIv (f w:Int) (we:List Int) (n A B:Int):Prop:=
 (f=1∧we=[] ∧ ∃y,1≤y∧y≤9999∧fst_ y≤n∧n<fst_ (y+1)∧A=fst_ y∧B=fst_ (y+1)-1) ∨
 (f=1∧we≠[] ∧ ∃Y,0≤Y∧Y≤10000∧w1 Y w≤n∧n<w1 (Y+1) w∧A=(if w1 Y w < -719162 then -719162 else w1 Y w)∧B=(if w1 (Y+1) w-1>2932896 then 2932896 else w1 (Y+1) w-1)) ∨
 (f=2 ∧ ∃y m,1≤y∧y≤9999∧1≤m∧m≤12∧fst_ y+cum y m≤n∧n<fst_ y+cum y (m+1)∧A=fst_ y+cum y m∧B=fst_ y+cum y (m+1)-1) ∨
 (f=3∧A=(if n-(n+3-w)%7 < -719162 then -719162 else n-(n+3-w)%7)∧B=(if n-(n+3-w)%7+6>2932896 then 2932896 else n-(n+3-w)%7+6)) ∨
 (f=4∧A=n∧B=n)
theorem cA2 {f w:Int} {we:List Int} {n A B:Int} (h:isIv f w we n A B) (hn: -719162≤n∧n≤2932896):A≤n∧n≤B ∧ -719162≤A∧B≤2932896:=by
 rcases h with⟨_,_,y,h1,h2,h3,h4,rfl,rfl⟩ | ⟨_,_,Y,h1,h2,h3,h4,rfl,rfl⟩ | ⟨_,y,m,h1,h2,h3,h4,h5,h6,rfl,rfl⟩ | ⟨_,rfl,rfl⟩ | ⟨_,rfl,rfl⟩
 ·have a:=tD (a:=1) (b:=y) (by omega) h1;have b:=tD (a:=y+1) (b:=10000) (by omega) (by omega);rw[dC1]at a;rw[lJ]at b;omega
 ·split <;> split <;> omega
 ·have a:=tD (a:=1) (b:=y) (by omega) h1;have b:=tD (a:=y+1) (b:=10000) (by omega) (by omega);have c:=lH y h1;have d:=mK y (a:=m+1) (b:=13) (by omega) (by omega) (by omega);have e:=eJ y m;rw[dC1]at a;rw[lJ]at b;omega
 ·split <;> split <;> omega
 ·omega
theorem bP1 {f w:Int} {we:List Int} {n k A B x k':Int} (h:isIv f w we n A B) (hn:jK1 f w we n k) (hx:jK1 f w we x k') (hr: -719162≤x∧x≤2932896):
  (A≤x∧x≤B→k'=k)∧(x=A-1→k'=k-1)∧(x=B+1→k'=k+1):=by
 rcases h with⟨f1,e1,y,h1,h2,h3,h4,rfl,rfl⟩ | ⟨f1,e1,Y,h1,h2,h3,h4,hA,hB⟩ | ⟨f1,y,m,h1,h2,h3,h4,h5,h6,rfl,rfl⟩ | ⟨f1,hA,hB⟩ | ⟨f1,rfl,rfl⟩ <;>
  rcases hn with⟨f2,e2,m1,d1,g⟩ | ⟨f2,e2,g0,j1,g⟩ | ⟨f2,y1,m1,d1,g,rfl⟩ | ⟨f2,rfl⟩ | ⟨f2,rfl⟩ <;> first | omega | (exact absurd e1 e2) | (exact absurd e2 e1) | skip <;>
  rcases hx with⟨f3,e3,m2,d2,q⟩ | ⟨f3,e3,q0,j2,q⟩ | ⟨f3,y2,m2,d2,q,rfl⟩ | ⟨f3,rfl⟩ | ⟨f3,rfl⟩ <;> first | omega | (exact absurd e1 e3) | (exact absurd e3 e1) | skip
 ·-- years
  obtain⟨a1,a2,_⟩:=mF g;obtain⟨b1,b2,_⟩:=mF q;obtain⟨v1,v1',_⟩:=eC.1 g.1;obtain⟨v2,v2',_⟩:=eC.1 q.1;have ek:k=y:=gQ v1 h1 a1 a2 h3 h4;subst ek;refine⟨fun r=>gQ v2 v1 b1 b2 r.1 (by omega),fun r=>?_,fun r=>?_⟩
  ·have s:=iJ (k-1) (by omega);rw[show k-1+1=k by omega]at s;rcases Int.lt_or_le 1 k with c | c
   ·exact gQ v2 (by omega) b1 b2 (by omega) (by rw[show k-1+1=k by omega];omega)
   ·have:k=1:=by omega
    subst this;have:=dC1;omega
  ·have s:=iJ (k+1) (by omega);exact gQ v2 (by omega) b1 b2 (by omega) (by omega)
 ·-- years by weeks
  obtain⟨a1,a2,_⟩:=g;obtain⟨b1,b2,_⟩:=q;have ek:k=Y:=(xL (n:=n) (w:=w) (k:=(n-w1 k w)/7+1) (k':=(n-w1 Y w)/7+1) g0 h1 ⟨a1,a2,rfl⟩ ⟨h3,h4,rfl⟩).1;subst ek;have uq:∀z,0≤z→w1 z w≤x→x<w1 (z+1) w→k'=z:=fun z z0 z1 z2=>(xL (n:=x) (w:=w) (k:=(x-w1 k' w)/7+1) (k':=(x-w1 z w)/7+1) q0 z0 ⟨b1,b2,rfl⟩ ⟨z1,z2,rfl⟩).1
  have n0:=eK k w;have n1:=eK (k+1) w;refine⟨fun r=>uq k g0 ?_ ?_,fun r=>?_,fun r=>?_⟩
  ·rw[hA]at r;split at r <;> omega
  ·rw[hB]at r;obtain⟨_,r⟩:=r;split at r <;> omega
  ·rw[hA]at r;split at r
   ·omega
   ·rcases Int.lt_or_le 0 k with c | c
    ·have s:=mN (k-1) w (by omega);rw[show k-1+1=k by omega]at s;exact uq (k-1) (by omega) (by omega) (by rw[show k-1+1=k by omega];omega)
    ·have:k=0:=by omega
     subst this;have f0:fst_ 0 = -719528:=by decide
     omega
  ·rw[hB]at r;split at r
   ·omega
   ·have s:=mN (k+1) w (by omega);exact uq (k+1) (by omega) (by omega) (by omega)
 ·-- months
  obtain⟨a1,a2,a3,a4,_⟩:=mF g;obtain⟨b1,b2,b3,b4,_⟩:=mF q;obtain⟨v1,v1',v1a,v1b⟩:=eC.1 g.1;obtain⟨v2,v2',v2a,v2b⟩:=eC.1 q.1;have c1:=oE y1 m1 a3 a4;have c2:=oE y2 m2 b3 b4;have g2:=g.2;have q2:=q.2
  have uq:∀(z u n' m' d' y':Int),iH n' y' m' d'→1≤z→z≤9999→1≤u→u≤12→fst_ z+cum z u≤n'→n'<fst_ z+cum z (u+1)→y'=z∧m'=u:=fun z u n' m' d' y' hd z1 z2 u1 u2 r1 r2=>by
   have hb:=oE z u u1 u2;have hu:iH n' z u (n'-fst_ z-cum z u+1):=⟨eC.2 ⟨z1,z2,by omega,by omega⟩,by omega⟩
   obtain⟨e1,e2,_⟩:=iN hd hu;exact⟨e1,e2⟩
  obtain⟨ey,em⟩:=uq y m n m1 d1 y1 g h1 h2 h3 h4 h5 h6;subst ey em;refine⟨fun r=>?_,fun r=>?_,fun r=>?_⟩
  ·obtain⟨e3,e4⟩:=uq y1 m1 x m2 d2 y2 q h1 h2 h3 h4 r.1 (by omega);rw[e3,e4]
  ·by_cases cm:m1=1
   ·subst cm;have c0:=rD1 y1;have s:=iJ (y1-1) (by omega);rw[show y1-1+1=y1 by omega]at s;rcases Int.lt_or_le 1 y1 with cy | cy
    ·have s':=lH (y1-1) (by omega);rw[show y1-1+1=y1 by omega]at s';have h13:=oE (y1-1) 12 (by omega) (by omega);have hl:=qH (y1-1) 12;have hl2:mlen (y1-1) 12=31:=by unfold mlen;simp
     obtain⟨e3,e4⟩:=uq (y1-1) 12 x m2 d2 y2 q (by omega) (by omega) (by omega) (by omega) (by rw[show(12:Int)+1=13 from rfl]at h13;omega) (by rw[show(12:Int)+1=13 from rfl];omega);rw[e3,e4];omega
    ·have:y1=1:=by omega
     subst this;have:=dC1;omega
   ·have hs:=oE y1 (m1-1) (by omega) (by omega);rw[show m1-1+1=m1 by omega]at hs;have hl:28≤mlen y1 (m1-1):=by
     unfold mlen;split
     ·split <;> omega
     ·split
      ·omega
      ·rw[if_pos ⟨by omega,by omega⟩];omega
    obtain⟨e3,e4⟩:=uq y1 (m1-1) x m2 d2 y2 q (by omega) (by omega) (by omega) (by omega) (by omega) (by rw[show m1-1+1=m1 by omega];omega);rw[e3,e4];omega
  ·by_cases cm:m1=12
   ·subst cm;have s':=lH y1 (by omega);have c0:=rD1 (y1+1);have c3:=oE (y1+1) 1 (by omega) (by omega);have hl2:mlen (y1+1) 1=31:=by unfold mlen;simp
    rw[show(12:Int)+1=13 from rfl]at r;have b9:=tD (a:=y1+1) (b:=10000) (by omega) (by omega);rw[lJ]at b9;rcases Int.lt_or_le y1 9999 with cy | cy
    ·obtain⟨e3,e4⟩:=uq (y1+1) 1 x m2 d2 y2 q (by omega) (by omega) (by omega) (by omega) (by omega) (by omega);rw[e3,e4];omega
    ·have:y1=9999:=by omega
     subst this;have:fst_ (9999+1)=2932897:=lJ;omega
   ·have hs:=oE y1 (m1+1) (by omega) (by omega);have hl:28≤mlen y1 (m1+1):=by
     unfold mlen;split
     ·split <;> omega
     ·split
      ·omega
      ·rw[if_pos ⟨by omega,by omega⟩];omega
    obtain⟨e3,e4⟩:=uq y1 (m1+1) x m2 d2 y2 q (by omega) (by omega) (by omega) (by omega) (by omega) (by omega);rw[e3,e4];omega
theorem jan1 (y:Int) (h1:1≤y) (h2:y≤9999):zI.f y 1 1=some (fst_ y,0,()):=by
 have hv:pJ y 1 1=true:=eC.2 ⟨h1,h2,by omega,by unfold mlen;simp⟩;have:=rD1 y;have e:fst_ y+1-1+cum y 1=fst_ y:=by omega
 rw[yC1,if_pos hv,e]
theorem yK1 (y w:Int) (h1:0≤y) (h2:y≤10001) (hw:0≤w∧w≤6):lE.l1 w (fst_ y)=some (w1 y w,()):=by
 have hb:=vH y h1 h2;have hk:=tK1 (fst_ y);rw[lE.l1_eq,xI];simp(disch:=omega)only[ss,tmn (show(0:Int)≤wk (fst_ y)-w+7 by omega)];unfold w1;by_cases c:(wk (fst_ y)-w+7)%7≤3
 ·simp(disch:=omega)only[ss]
  congr 2
  unfold wk at *;omega
 ·simp(disch:=omega)only[ss]
  congr 2
  unfold wk at *;omega
theorem lS (y w:Int) (h1:0≤y) (h2:y≤10001) (hw:0≤w∧w≤6):lE.f y w=some (if y<1 then -719169 else if y>10000 then 2932903 else w1 y w,()):=by
 rw[lE.f_eq];by_cases c1:y<1
 ·rw[if_pos c1];simp(disch:=omega)only[ss]
 ·rw[if_neg c1];by_cases c2:y>10000
  ·rw[if_pos c2];simp(disch:=omega)only[ss]
  ·rw[if_neg c2];have hl:=yK1 y w h1 h2 hw;by_cases c3:y≤9999
   ·simp(disch:=omega)only[ss,jan1 y (by omega) c3,hl]
   ·have:y=10000:=by omega
    subst this;rw[lJ]at hl;simp(disch:=omega)only[ss,hl]
theorem sH1 (a b:Int):nO.f a b=some (if a < -719162 then -719162 else a,if b>2932896 then 2932896 else b,()):=by rw[nO.f_eq];simp only[mm,cond_true,cond_false,gt_iff_lt]
section
variable (f iv ct un wkst : Int) (en : Bool) (mo we yd md : List Int) (dy : List Dy) (ho mi se po : List Int)
theorem oP1 (s sec n0 y0 m0 d0 w0 t:Int) (ht:inT t) (hf:1≤f∧f≤7) (hw:0≤wkst∧wkst≤6) (hl:we.length≤100000):
  ∃A B,(f≤4→isIv f wkst we (t/86400) A B)∧(4<f→A=t/86400∧B=t/86400)∧gE.f ((f,iv,ct,un,wkst,en,mo,we,yd,md,dy,ho,mi,se,po,()),s,(n0,y0,m0,d0,w0,()),sec,()) t=some (A,B,()):=by
 have hb:=uJ ht;obtain⟨y,m,d,hd,e,e'⟩:=kJ (t/86400) hb.1 hb.2;obtain⟨hD,_⟩:=qF t (by unfold inT at ht;omega) (by unfold inT at ht;omega);obtain⟨q1,q2,q3,q4,_⟩:=mF hd;obtain⟨v1,v2,v3,v4⟩:=eC.1 hd.1;have hof:=vZ (t/86400) y m d e;have heq:=hd.2;rw[gE.f_eq,hD];simp only[hE2];rw[hof];simp only[hE2];by_cases f1:f=1
 ·subst f1;by_cases c:we=[]
  ·subst c;have hnil:(([]:List Int).length:Int)=0:=rfl;have hs:=lH y v1;have h13:=eD1 y;have hfb:=vH y (by omega) (by omega);have e3:fst_ y+cum y 13-1=fst_ (y+1)-1:=by omega
   refine⟨fst_ y,fst_ (y+1)-1,fun _=>.inl ⟨rfl,rfl,y,v1,v2,q1,q2,rfl,rfl⟩,fun q=>by omega,?_⟩;simp(disch:=omega)only[ss,dJ.f_eq,hnil,jan1 y v1 v2,zU y (by omega),e3]
  ·have hp:=wF.1 c;obtain⟨Y,K,h1,h2,h3,h4,h5,h6,_⟩:=aQ (t/86400) wkst hb.1 hb.2 hw.1 hw.2;obtain⟨a1,a2,_⟩:=h1;have o1:=lS Y wkst h2 (by omega) hw;have o2:=lS (Y+1) wkst (by omega) (by omega) hw;have n0':=eK Y wkst;have n1':=eK (Y+1) wkst;have b0:=vH Y h2 (by omega);have b1:=vH (Y+1) (by omega) (by omega);have f0:fst_ 0 = -719528:=by decide
   have f10:fst_ 10001=2933263:=by decide
   refine⟨_,_,fun _=>.inr (.inl ⟨rfl,c,Y,h2,h3,a1,a2,rfl,rfl⟩),fun q=>by omega,?_⟩
   have fin:∀v1 v2:Int,v1=(if Y<1 then -719169 else if Y>10000 then 2932903 else w1 Y wkst)→v2=(if Y+1<1 then -719169 else if Y+1>10000 then 2932903 else w1 (Y+1) wkst) →
     (if v1 < -719162 then -719162 else v1)=(if w1 Y wkst < -719162 then -719162 else w1 Y wkst)∧(if v2-1>2932896 then 2932896 else v2-1)=(if w1 (Y+1) wkst-1>2932896 then 2932896 else w1 (Y+1) wkst-1)∧(-10000000≤v2∧v2≤10000000):=fun v1 v2 e1 e2=>by
    have hv1:(v1 = -719169∧Y=0)∨v1=w1 Y wkst:=by
     by_cases cY:Y<1
     ·rw[if_pos cY]at e1;exact .inl ⟨e1,by omega⟩
     ·rw[if_neg cY,if_neg (by omega)]at e1;exact .inr e1
    have hv2:(v2=2932903∧Y=10000)∨v2=w1 (Y+1) wkst:=by
     rw[if_neg (by omega)]at e2;by_cases cY:Y+1>10000
     ·rw[if_pos cY]at e2;exact .inl ⟨e2,by omega⟩
     ·rw[if_neg cY]at e2;exact .inr e2
    refine⟨?_,?_,?_⟩
    ·rcases hv1 with⟨e3,e4⟩ | e3
     ·subst e4;rw[e3];split <;> split <;> omega
     ·rw[e3]
    ·rcases hv2 with⟨e3,e4⟩ | e3
     ·subst e4;have n2:fst_ (10000+1)=2933263:=f10;rw[e3];split <;> split <;> omega
     ·rw[e3]
    ·rcases hv2 with⟨e3,_⟩ | e3 <;> rw[e3] <;> omega
   obtain⟨g1,g2,g3⟩:=fin _ _ rfl rfl;rw[←g1,←g2];simp(disch:=omega)only[ss,dJ.f_eq,aL.f_eq,h6,o1,o2,sH1]
 ·by_cases f2:f=2
  ·subst f2;have hc:=oE y m q3 q4;have hml:=qH y m;have e1:t/86400-d+1=fst_ y+cum y m:=by omega
   have e2:t/86400-d+mlen y m=fst_ y+cum y (m+1)-1:=by omega
   refine⟨fst_ y+cum y m,fst_ y+cum y (m+1)-1,fun _=>.inr (.inr (.inl ⟨rfl,y,m,v1,v2,q3,q4,by omega,by omega,rfl,rfl⟩)),fun q=>by omega,?_⟩;simp(disch:=omega)only[ss,tI y m (by omega),e1,e2]
  ·by_cases f3:f=3
   ·subst f3;have hk:=tK1 (t/86400);have hm:Int.tmod (wk (t/86400)-wkst+7) 7=(t/86400+3-wkst)%7:=by rw[tmn (by omega)];unfold wk;omega
    have e6:t/86400-(t/86400+3-wkst)%7+7-1=t/86400-(t/86400+3-wkst)%7+6:=by omega
    refine⟨_,_,fun _=>.inr (.inr (.inr (.inl ⟨rfl,rfl,rfl⟩))),fun q=>by omega,?_⟩;simp(disch:=omega)only[ss,hm,e6,sH1]
   ·refine⟨t/86400,t/86400,fun q=>.inr (.inr (.inr (.inr ⟨by omega,rfl,rfl⟩))),fun _=>⟨rfl,rfl⟩,?_⟩;simp(disch:=omega)only[ss]
end
abbrev PlT :=Rl×(Rl×Int×(Int×Int×Int×Int×Int×Unit)×Int×Unit)×Int×(List Int)×(List Int)×(List Int)×Unit
noncomputable def per (f w:Int) (we:List Int) (t:Int):Int:=Classical.epsilon fun k=>dE1 f w we t k
theorem lV1 {f w:Int} {we:List Int} {t k:Int} (h:dE1 f w we t k):dE1 f w we t (per f w we t):=Classical.epsilon_spec ⟨k,h⟩
theorem bV1 {f w:Int} {we:List Int} {t k:Int} (h:dE1 f w we t k):k=per f w we t:=
 Int.le_antisymm (xZ h (lV1 h) (vF2 _)) (xZ (lV1 h) h (vF2 _))
noncomputable def ind (p:Prop):Bool:=@decide p (Classical.propDecidable p)
theorem gK {p:Prop}:ind p=true↔p:=@decide_eq_true_iff p (Classical.propDecidable p)
theorem zY {p:Prop} (h:p):ind p=true:=gK.2 h
theorem wS {p:Prop} (h:¬p):ind p=false:=by
 cases e:ind p with
 | false=>rfl
 | true=>exact absurd (gK.1 e) h
noncomputable def tP (f wkst:Int) (mo we yd md:List Int) (dy:List Dy) (s n:Int):Bool:=
 ind (∃y0 m0 d0 y m d,iH (s/86400) y0 m0 d0∧iH n y m d∧fitP f wkst mo we yd md dy m0 d0 (wk (s/86400)) n y m d)
theorem aJ1 {f wkst:Int} {mo we yd md:List Int} {dy:List Dy} {s n:Int} (h:tP f wkst mo we yd md dy s n=true): -719162≤n∧n≤2932896:=by unfold tP at h;obtain⟨y0,m0,d0,y,m,d,_,h,_⟩:=gK.1 h;have:=mF h;omega
structure PlanOK (P:PlT) (r:Rl) (s:Int) (F:Int→Bool) (pr:Int→Int) (h m c:List Int):Prop where
 dmk:jF.f r s=some (P.2.1,true,())
 er:P.1=r
 es:P.2.2.1=s
 eh:P.2.2.2.1=h
 em:P.2.2.2.2.1=m
 ec:P.2.2.2.2.2.1=c
 inS:inT s
 fits:∀n,pB.f P.2.1 n=some (F n,())
 fin:∀n,F n=true → -719162≤n∧n≤2932896
 period:∀t,inT t→dH.f P.2.1 t=some (pr t-pr s,())
 days:∀t,inT t → ∃A B,gE.f P.2.1 t=some (A,B,())∧(A≤t/86400∧t/86400≤B ∧ -719162≤A∧B≤2932896)∧(r.1≤4 → ∀x,inT x→(pr x=pr t↔A≤x/86400∧x/86400≤B))∧(4<r.1→A=t/86400∧B=t/86400)
 p5:r.1=5 → ∀t,inT t→pr t=t/3600
 p6:r.1=6 → ∀t,inT t→pr t=t/60
 p7:r.1=7 → ∀t,inT t→pr t=t
 mono:∀t t',inT t→inT t'→t≤t'→pr t≤pr t'
 bd:∀t,inT t → -300000000000≤pr t∧pr t≤300000000000
 oh:okT h 23
 om:okT m 59
 oc:okT c 59
 fr:1≤r.1∧r.1≤7
 iv:1≤r.2.1∧r.2.1≤1000
 lp:r.2.2.2.2.2.2.2.2.2.2.2.2.2.2.1.length≤1000
section
variable (f iv ct un wkst : Int) (en : Bool) (mo we yd md : List Int) (dy : List Dy) (ho mi se po : List Int)
theorem jR1 (s sec n y0 m0 d0:Int) (hs:eN mo we yd md dy ho mi se po) (hw:0≤wkst∧wkst≤6) (h0:iH (s/86400) y0 m0 d0):
  pB.f ((f,iv,ct,un,wkst,en,mo,we,yd,md,dy,ho,mi,se,po,()),s,(s/86400,y0,m0,d0,wk (s/86400),()),sec,()) n=some (tP f wkst mo we yd md dy s n,()):=by
 by_cases c: -719162≤n∧n≤2932896
 ·obtain⟨y,m,d,h,e,_⟩:=kJ n c.1 c.2;obtain⟨b,h1,h2⟩:=bO1 f iv ct un wkst en mo we yd md dy ho mi se po s sec (s/86400) y0 m0 d0 (wk (s/86400)) n y m d hs hw h e;rw[h1];have:tP f wkst mo we yd md dy s n=b:=by
   unfold tP
   cases b with
   | true=>exact zY ⟨y0,m0,d0,y,m,d,h0,h,h2.1 rfl⟩
   | false=>
    refine wS fun⟨y0',m0',d0',y',m',d',g0,g,q⟩=>?_
    obtain⟨rfl,rfl,rfl⟩:=iN g0 h0;obtain⟨rfl,rfl,rfl⟩:=iN g h;exact absurd (h2.2 q) (by simp)
  rw[this]
 ·rw[mN1 f iv ct un wkst en mo we yd md dy ho mi se po s sec (s/86400) y0 m0 d0 (wk (s/86400)) n c];have:tP f wkst mo we yd md dy s n=false:=by
   cases hq:tP f wkst mo we yd md dy s n with
   | false=>rfl
   | true=>exact absurd (aJ1 hq) c
  rw[this]
def tX (s:Int):List Int:=tms ho (decide (f≤4)) (s%86400/3600) 24
def oJ1 (s:Int):List Int:=tms mi (decide (f≤5)) (s%86400/60%60) 60
def qJ1 (s:Int):List Int:=tms se (decide (f≤6)) (s%86400%60) 60
theorem oY1 (s:Int) (hs:eN mo we yd md dy ho mi se po) (hM:tA.f (f,iv,ct,un,wkst,en,mo,we,yd,md,dy,ho,mi,se,po,())=some (true,())) (ht:inT s):
  ∃P:PlT,sE.f (f,iv,ct,un,wkst,en,mo,we,yd,md,dy,ho,mi,se,po,()) s=some (P,true,()) ∧
   PlanOK P (f,iv,ct,un,wkst,en,mo,we,yd,md,dy,ho,mi,se,po,()) s (tP f wkst mo we yd md dy s) (per f wkst we) (tX f ho s) (oJ1 f mi s) (qJ1 f se s):=by
 have hp:=tY1 (r:=(f,iv,ct,un,wkst,en,mo,we,yd,md,dy,ho,mi,se,po,())) hs hM;dsimp only at hp;have hf:1≤f∧f≤7:=⟨hp.1.1.1,hp.1.1.2.1⟩
 have hw:0≤wkst∧wkst≤6:=⟨hp.1.1.2.2.2.2.2.2.1,hp.1.1.2.2.2.2.2.2.2⟩
 have hl:we.length≤100000:=hs.2.1;obtain⟨y0,m0,d0,h0,e0,_⟩:=kJ (s/86400) (uJ ht).1 (uJ ht).2;have hMk:=tL _ s hM ht y0 m0 d0 e0;obtain⟨sec,hsec⟩:∃x,x=s%86400:=⟨_,rfl⟩
 have hs1:0≤sec∧sec≤86399:=by omega
 have g1:xE.f ho (decide (f≤4)) (sec/3600) 24=some (tX f ho s,()):=by rw[hsec];exact(jK ho (decide (f≤4)) (s%86400/3600) 24 (by have:=hp.2.1.2.2.2.2.1.2;omega) (by omega)).1
 have g2:xE.f mi (decide (f≤5)) (sec/60%60) 60=some (oJ1 f mi s,()):=by rw[hsec];exact(jK mi (decide (f≤5)) (s%86400/60%60) 60 (by have:=hp.2.1.2.2.2.2.2.1.2;omega) (by omega)).1
 have g3:xE.f se (decide (f≤6)) (sec%60) 60=some (qJ1 f se s,()):=by rw[hsec];exact(jK se (decide (f≤6)) (s%86400%60) 60 (by have:=hp.2.1.2.2.2.2.2.2.1.2;omega) (by omega)).1
 have t1:w6 (Int.tdiv sec 3600)=sec/3600:=by rw[tdn hs1.1,wr (by omega) (by omega)]
 have t2:Int.tmod (w6 (Int.tdiv sec 60)) 60=sec/60%60:=by rw[tdn hs1.1,wr (by omega) (by omega),tmn (by omega)]
 have t3:Int.tmod sec 60=sec%60:=tmn hs1.1 _;rw[←hsec]at hMk;refine⟨((f,iv,ct,un,wkst,en,mo,we,yd,md,dy,ho,mi,se,po,()),((f,iv,ct,un,wkst,en,mo,we,yd,md,dy,ho,mi,se,po,()),s,(s/86400,y0,m0,d0,wk (s/86400),()),sec,()),s,tX f ho s,oJ1 f mi s,qJ1 f se s,()),?_,?_⟩
 ·rw[sE.f_eq,hMk];simp(disch:=omega)only[ss,mJ.f_eq,t1,t2,t3,g1,g2,g3]
 have hper:∀t,inT t→dE1 f wkst we t (per f wkst we t)∧(-300000000000≤per f wkst we t∧per f wkst we t≤300000000000)∧uI.f (f,iv,ct,un,wkst,en,mo,we,yd,md,dy,ho,mi,se,po,()) t=some (per f wkst we t+off f wkst,()):=fun t h=>by obtain⟨k,k1,k2,k3,_⟩:=nH1 f iv ct un wkst en mo we yd md dy ho mi se po t h hf hw hl;have e:=bV1 k1;subst e;exact⟨k1,k2,k3⟩
 have hoff:0≤off f wkst∧off f wkst≤2932896:=by unfold off;split <;> (try split) <;> omega
 refine { dmk:=hMk,er:=rfl,es:=rfl,eh:=rfl,em:=rfl,ec:=rfl,inS:=ht,fits:=fun n=>?_,fin:=fun n h=>aJ1 h,period:=fun t h=>?_,days:=fun t h=>?_,p5:=fun q t h=>?_,p6:=fun q t h=>?_,p7:=fun q t h=>?_,mono:=fun t t' h h' q=>?_,bd:=fun t h=>(hper t h).2.1,oh:=?_,om:=?_,oc:=?_,fr:=hf,iv:=⟨hp.1.1.2.2.1,hp.1.1.2.2.2.1⟩,lp:=?_ }
 ·exact jR1 f iv ct un wkst en mo we yd md dy ho mi se po s sec n y0 m0 d0 hs hw h0
 ·have a:=hper t h;have b:=hper s ht;have e:per f wkst we t+off f wkst-(per f wkst we s+off f wkst)=per f wkst we t-per f wkst we s:=by omega
  rw[dH.f_eq];simp(disch:=omega)only[ss,a.2.2,b.2.2,e]
 ·obtain⟨A,B,h1,h2,h3⟩:=oP1 f iv ct un wkst en mo we yd md dy ho mi se po s sec (s/86400) y0 m0 d0 (wk (s/86400)) t h hf hw hl;have hd:=uJ h;refine⟨A,B,h3,?_,fun q x hx=>?_,h2⟩
  ·by_cases c:f≤4
   ·have:=cA2 (h1 c) hd;omega
   ·have:=h2 (by omega);omega
  ·have hx':=uJ hx;have q:f≤4:=q
   have hn:∀t,inT t→jK1 f wkst we (t/86400) (per f wkst we t):=fun t h=>by
    rcases(hper t h).1 with⟨_,a⟩ | ⟨z,_⟩ | ⟨z,_⟩ | ⟨z,_⟩
    ·exact a
    ·omega
    ·omega
    ·omega
   have hb:=cA2 (h1 q) hd;refine⟨fun z=>?_,fun z=>(bP1 (h1 q) (hn t h) (hn x hx) hx').1 z⟩;refine Classical.byContradiction fun hc=>?_
   rcases(show x/86400≤A-1∨B+1≤x/86400 by omega)with g | g
   ·have ht1:inT ((A-1)*86400):=by unfold inT;omega
    have n1:=hn _ ht1;have e:(A-1)*86400/86400=A-1:=by omega
    rw[e]at n1;have k1:=(bP1 (h1 q) (hn t h) n1 (by omega)).2.1 rfl;have k2:=eA1 (hn x hx) n1 g;omega
   ·have ht1:inT ((B+1)*86400):=by unfold inT;omega
    have n1:=hn _ ht1;have e:(B+1)*86400/86400=B+1:=by omega
    rw[e]at n1;have k1:=(bP1 (h1 q) (hn t h) n1 (by omega)).2.2 rfl;have k2:=eA1 n1 (hn x hx) g;omega
 ·have q:f=5:=q;rcases(hper t h).1 with⟨z,_⟩ | ⟨_,z⟩ | ⟨z,_⟩ | ⟨z,_⟩
  ·omega
  ·exact z
  ·omega
  ·omega
 ·have q:f=6:=q;rcases(hper t h).1 with⟨z,_⟩ | ⟨z,_⟩ | ⟨_,z⟩ | ⟨z,_⟩
  ·omega
  ·omega
  ·exact z
  ·omega
 ·have q:f=7:=q;rcases(hper t h).1 with⟨z,_⟩ | ⟨z,_⟩ | ⟨z,_⟩ | ⟨_,z⟩
  ·omega
  ·omega
  ·omega
  ·exact z
 ·exact xZ (hper t h).1 (hper t' h').1 q
 ·exact vL1 ho _ _ 23 24 hp.2.1.2.2.2.2.1 (by omega) (by omega) (by omega)
 ·exact vL1 mi _ _ 59 60 hp.2.1.2.2.2.2.2.1 (by omega) (by omega) (by omega)
 ·exact vL1 se _ _ 59 60 hp.2.1.2.2.2.2.2.2.1 (by omega) (by omega) (by omega)
 ·have:po.length≤60:=hp.2.1.2.2.2.2.2.2.2.1.2;show po.length≤1000;omega
end
theorem nY1 (r:Rl) (s:Int) (b:Bool) (hM:tA.f r=some (b,())) (h:¬(b=true∧inT s)):
  ∃P:PlT,sE.f r s=some (P,false,()):=by
 rw[sE.f_eq,dX1 r s b hM h];exact⟨_,by simp(disch:=omega)only[ss];rfl⟩
abbrev Sp :=Int×Int×Unit
def cov (l:List Sp) (t:Int):Prop:=∃s∈l,s.1≤t∧t<s.2.1
def nrm (l:List Sp):Prop:=l.Pairwise (fun a b=>a.2.1<b.1) ∧ ∀s∈l,s.1<s.2.1
theorem nN (t:Int):¬cov [] t:=fun⟨s,h,_⟩=>by cases h
theorem mG (s:Sp) (l:List Sp) (t:Int):cov (s::l) t↔(s.1≤t∧t<s.2.1)∨cov l t:=by simp[cov]
theorem yF1 (a b:List Sp) (t:Int):cov (a++b) t↔cov a t∨cov b t:=by
 unfold cov;constructor
 ·rintro⟨s,h,h2⟩;rcases xE2.1 h with h | h
  ·exact .inl ⟨s,h,h2⟩
  ·exact .inr ⟨s,h,h2⟩
 ·rintro(⟨s,h,h2⟩ | ⟨s,h,h2⟩)
  ·exact⟨s,bF2 _ h,h2⟩
  ·exact⟨s,tE2 _ h,h2⟩
theorem gI1 {a b:List Sp} (h:a.Perm b) (t:Int):cov a t↔cov b t:=by simp only[cov,h.mem_iff]
theorem qH1 {s:Sp} {l:List Sp} (h:nrm (s::l)):nrm l:=⟨(xF2.1 h.1).2,fun x hx=>h.2 x (mE2 _ hx)⟩
theorem xN {s:Sp} {l:List Sp} (h:nrm (s::l)) {t:Int} (ht:cov l t):s.2.1<t:=by obtain⟨x,hx,h1,h2⟩:=ht;have:=(xF2.1 h.1).1 x hx;omega
theorem lI1 :∀{a b:List Sp},nrm a→nrm b→(∀t,cov a t↔cov b t)→a=b
 | [],[],_,_,_=>rfl
 | [],y::b,_,hb,h=>absurd ((h y.1).2 ((mG _ _ _).2 (.inl ⟨vF2 _,hb.2 y nE2⟩))) (nN _)
 | x::a,[],ha,_,h=>absurd ((h x.1).1 ((mG _ _ _).2 (.inl ⟨vF2 _,ha.2 x nE2⟩))) (nN _)
 | x::a,y::b,ha,hb,h=>by
  have hx:=ha.2 x nE2;have hy:=hb.2 y nE2;have lo:x.1=y.1:=by
   have h1:=(h x.1).1 ((mG _ _ _).2 (.inl ⟨vF2 _,hx⟩));have h2:=(h y.1).2 ((mG _ _ _).2 (.inl ⟨vF2 _,hy⟩));rw[mG]at h1 h2;rcases h1 with h1 | h1 <;> rcases h2 with h2 | h2
   ·omega
   ·have:=xN ha h2;omega
   ·have:=xN hb h1;omega
   ·have:=xN ha h2;have:=xN hb h1;omega
  have hi:x.2.1=y.2.1:=by
   rcases yH2 x.2.1 y.2.1 with h1 | h1 | h1
   ·have h2:=(h x.2.1).2 ((mG _ _ _).2 (.inl ⟨by omega,h1⟩));rw[mG]at h2;rcases h2 with h2 | h2
    ·omega
    ·have:=xN ha h2;omega
   ·exact h1
   ·have h2:=(h y.2.1).1 ((mG _ _ _).2 (.inl ⟨by omega,h1⟩));rw[mG]at h2;rcases h2 with h2 | h2
    ·omega
    ·have:=xN hb h2;omega
  have e:x=y:=by obtain⟨x1,x2,x3⟩:=x;obtain⟨y1,y2,y3⟩:=y;simp only at lo hi;rw[lo,hi]
  subst e;rw[lI1 (qH1 ha) (qH1 hb) fun t=>?_];have:=h t;rw[mG,mG]at this;constructor
  ·intro h1;rcases this.1 (.inr h1)with h2 | h2
   ·have:=xN ha h1;omega
   ·exact h2
  ·intro h1;rcases this.2 (.inr h1)with h2 | h2
   ·have:=xN hb h1;omega
   ·exact h2
def push (out:List Sp) (s:Sp):List Sp:=match out.getLast? with
 | none=>[s]
 | some p=>if s.1≤p.2.1 then out.dropLast++[(p.1,mm true p.2.1 s.2.1,())]else out++[s]
theorem pZ (s:Sp):push [] s=[s]:=rfl
theorem rQ (o:List Sp) (p s:Sp):push (o++[p]) s=if s.1≤p.2.1 then o++[(p.1,mm true p.2.1 s.2.1,())]else o++[p]++[s]:=by simp[push]
theorem sA1 (out:List Sp) (s:Sp):(push out s).length≤out.length+1:=by
 rcases fO out with rfl | ⟨o,p,rfl⟩
 ·simp[push]
 ·rw[rQ];split <;> simp
structure Put (out:List Sp) (v:Int):Prop where
 nrm:nrm out
 lo:∀s∈out,s.1≤v
theorem fS1 {out:List Sp} {s:Sp} (h:Put out s.1) (hs:s.1<s.2.1):Put (push out s) s.1 ∧ ∀t,cov (push out s) t↔cov out t∨(s.1≤t∧t<s.2.1):=by
 rcases fO out with rfl | ⟨o,p,rfl⟩
 ·rw[pZ];exact⟨⟨⟨List.pairwise_singleton _ _,fun x hx=>by simp at hx;subst hx;exact hs⟩,fun x hx=>by simp at hx;subst hx;exact vF2 _⟩,fun t=>by rw[mG];constructor <;> rintro(h | h) <;> first | exact .inr h | exact absurd h (nN _) | exact .inl h⟩
 ·have hp:=h.nrm.2 p (by simp);have hpl:=h.lo p (by simp);have ho:=aG2.1 h.nrm.1;rw[rQ,tY];by_cases hc:s.1≤p.2.1
  ·rw[if_pos hc];refine⟨⟨⟨aG2.2 ⟨ho.1,List.pairwise_singleton _ _,fun a ha b hb=>?_⟩,fun x hx=>?_⟩,fun x hx=>?_⟩,fun t=>?_⟩
   ·simp at hb;subst hb;exact ho.2.2 a ha p (by simp)
   ·rcases xE2.1 hx with hx | hx
    ·exact h.nrm.2 x (by simp[hx])
    ·simp at hx;subst hx;show p.1<max p.2.1 s.2.1;omega
   ·rcases xE2.1 hx with hx | hx
    ·exact h.lo x (by simp[hx])
    ·simp at hx;subst hx;exact hpl
   ·rw[yF1,yF1,mG,mG];show cov o t∨(p.1≤t∧t<max p.2.1 s.2.1)∨cov [] t↔_;have:=nN t;constructor
    ·rintro(h1 | h1 | h1)
     ·exact .inl (.inl h1)
     ·by_cases h2:t<p.2.1
      ·exact .inl (.inr (.inl ⟨h1.1,h2⟩))
      ·exact .inr ⟨by omega,by omega⟩
     ·exact absurd h1 this
    ·rintro((h1 | h1 | h1) | h1)
     ·exact .inl h1
     ·exact .inr (.inl ⟨h1.1,by omega⟩)
     ·exact absurd h1 this
     ·exact .inr (.inl ⟨by omega,by omega⟩)
  ·rw[if_neg hc];refine⟨⟨⟨aG2.2 ⟨h.nrm.1,List.pairwise_singleton _ _,fun a ha b hb=>?_⟩,fun x hx=>?_⟩,fun x hx=>?_⟩,fun t=>?_⟩
   ·simp at hb;subst hb;rcases xE2.1 ha with ha | ha
    ·have:=ho.2.2 a ha p (by simp);omega
    ·simp at ha;subst ha;omega
   ·rcases xE2.1 hx with hx | hx
    ·exact h.nrm.2 x hx
    ·simp at hx;subst hx;exact hs
   ·rcases xE2.1 hx with hx | hx
    ·exact h.lo x hx
    ·simp at hx;subst hx;exact vF2 _
   ·rw[yF1 (o++[p]),mG];have:=nN t;constructor
    ·rintro(h1 | h1 | h1)
     ·exact .inl h1
     ·exact .inr h1
     ·exact absurd h1 this
    ·rintro(h1 | h1)
     ·exact .inl h1
     ·exact .inr (.inl h1)
theorem sZ :∀(l out:List Sp),(∀s∈l,s.1<s.2.1)→l.Pairwise (fun a b=>a.1≤b.1)→nrm out→(∀s∈l,∀a∈out,a.1≤s.1)→nrm (l.foldl push out) ∧ ∀t,cov (l.foldl push out) t↔cov out t∨cov l t
 | [],out,_,_,hn,_=>⟨hn,fun t=>⟨.inl,fun h=>h.elim id fun h=>absurd h (nN t)⟩⟩
 | s::l,out,h1,h2,hn,h3=>by
  rw[xF2]at h2;obtain⟨h4,h5⟩:=fS1 (out:=out) (s:=s) ⟨hn,h3 s nE2⟩ (h1 s nE2);obtain⟨h6,h7⟩:=sZ l (push out s) (fun x hx=>h1 x (mE2 _ hx)) h2.2 h4.nrm fun x hx a ha=>Int.le_trans (h4.lo a ha) (h2.1 x hx)
  refine⟨h6,fun t=>?_⟩;rw[iH2,h7,h5,mG,or_assoc]
theorem gJ1 :∀(l out:List Sp),(l.foldl push out).length≤out.length+l.length
 | [],_=>by simp
 | s::l,out=>by have h1:=gJ1 l (push out s);have h2:=sA1 out s;simp only[iH2,iF2];omega
theorem cZ1 (l:List Sp) (h:l.length≤1000000) (hb:∀s∈l,(-1000000000000≤s.1∧s.1≤1000000000000) ∧ -1000000000000≤s.2.1∧s.2.1≤1000000000000):
  ∃r,qC.f l ()=some (r,(),())∧r.Perm l∧r.Pairwise (fun x y=>x.1≤y.1):=by
 have hall:l.all tO=true:=pG2.2 fun d hd=>by have:=hb d hd;unfold tO Go.GV.small;simp only[iE2,decide_eq_true_eq];omega
 obtain⟨r,hr⟩:∃r:List Sp,nQ tO zf86 cf86 l=some r:=by unfold nQ;rw[hall];exact⟨_,rfl⟩
 have hp:List.Perm (α:=Sp) r l:=iR vM1 hr;have hso0:List.Pairwise (α:=Sp) (fun a b=>¬cf86 b a<0) r:=gE1 vM1 hr;refine⟨r,?_,hp,hso0.imp fun {a b} h=>?_⟩
 ·rw[qC.f_sem];show(bif decide (List.length l≤eD)then(nQ tO zf86 cf86 l).map (fun ys=>(ys,(),()))else none)=_;rw[dp (by simp only[eD];omega),cond_true,hr];rfl
 ·have h2:=qI1 b.1 a.1;have h3:decide (qW b.1 a.1<0)=false:=decide_eq_false h;rw[h3]at h2;have:=of_decide_eq_false h2.symm;omega
theorem wW1 (inn:List Sp) (hl:inn.length≤1000000):∀(k i:Nat) (out:List Sp),inn.length-i=k→i≤inn.length→out.length≤i →
  aE.l1 inn inn.length i out=some ((inn.drop i).foldl push out,()):=by
 have hlim:eD=17179869184:=rfl;intro k
 induction k with
 | zero=>
  intro i out hk hi ho;have e:i=inn.length:=by omega
  subst e;rw[aE.l1_eq];simp(disch:=omega)only[ss,jF2,List.foldl_nil]
 | succ k ih=>
  intro i out hk hi ho;have hlt:i<inn.length:=by omega
  have hs:∀s:Sp,(s.1,s.2.1,())=s:=fun s=>rfl
  rw[aE.l1_eq,iB (0,0,()) hlt,iH2];have hpl:=sA1 out (inn.getD i (0,0,()));rw[←ih (i+1) (push out (inn.getD i (0,0,()))) (by omega) (by omega) (by omega)];rcases fO out with rfl | ⟨o,p,rfl⟩
  ·rw[pZ];simp(disch:=omega)only[ss,lG2,qE2,aE.l2_eq,vE2,dF2,hs,hlim];rfl
  ·rw[nG]at ho;rw[rQ];simp(disch:=omega)only[ss,nG,gF2,hF2,Int.add_sub_cancel,aE.l2_eq,vE2,hs,vD1,eI1,hlim];by_cases hc:(inn.getD i (0,0,())).1≤p.2.1
   ·simp(disch:=omega)only[ss,if_pos hc]
   ·simp(disch:=omega)only[ss,if_neg hc]
theorem hT1 (l:List Sp) (hl:l.length≤1000000):aE.f l=some (l.foldl push [],()):=by have:=wW1 l hl _ 0 [] rfl (kE2 _) (rE2 _);rw[yE2,qE2]at this;rw[aE.f_eq];exact this
theorem tU1 (a b:List Sp) (hab:a.length=b.length) (hl:a.length≤1000000):∀(k i:Nat),a.length-i=k→i≤a.length→tC.l1 a b (i:Int)=some (decide (a.drop i=b.drop i),()):=by
 intro k
 induction k with
 | zero=>
  intro i hk hi;have e1:a.drop i=[]:=yG2 (by omega);have e2:b.drop i=[]:=yG2 (by omega);rw[tC.l1_eq,e1,e2];simp(disch:=omega)only[ss]
 | succ k ih=>
  intro i hk hi;have h1:i<a.length:=by omega
  have h2:i<b.length:=by omega
  have iff2:(a.drop i=b.drop i)↔((a.getD i (0,0,())).1=(b.getD i (0,0,())).1∧(a.getD i (0,0,())).2.1=(b.getD i (0,0,())).2.1)∧a.drop (i+1)=b.drop (i+1):=by
   rw[iB ((0,0,()):Sp) h1,iB ((0,0,()):Sp) h2,List.cons.injEq];constructor
   ·rintro⟨q1,q2⟩;rw[q1];exact⟨⟨rfl,rfl⟩,q2⟩
   ·rintro⟨⟨q1,q2⟩,q3⟩;exact⟨Prod.ext q1 (Prod.ext q2 rfl),q3⟩
  rw[tC.l1_eq];by_cases c1:(a.getD i (0,0,())).1=(b.getD i (0,0,())).1
  ·by_cases c2:(a.getD i (0,0,())).2.1=(b.getD i (0,0,())).2.1
   ·simp(disch:=omega)only[ss,tC.l2_eq];refine(ih (i+1) (by omega) (by omega)).trans ?_;rw[decide_eq_decide.2 (iff2.trans ⟨fun q=>q.2,fun q=>⟨⟨c1,c2⟩,q⟩⟩)]
   ·simp(disch:=omega)only[ss,tC.l2_eq];rw[dn (fun q=>c2 (iff2.1 q).1.2)]
  ·simp(disch:=omega)only[ss,tC.l2_eq];rw[dn (fun q=>c1 (iff2.1 q).1.1)]
theorem fH1 (a b:List Sp) (hl:a.length≤1000000):tC.f a b=some (decide (a=b),()):=by
 rw[tC.f_eq];by_cases c:a.length=b.length
 ·have:=tU1 a b c hl _ 0 rfl (kE2 _);rw[qE2,yE2,yE2]at this;simp(disch:=omega)only[ss];exact this
 ·simp(disch:=omega)only[ss];rw[dn (fun q=>c (by rw[q]))]
def spF (U:Int→Int) (du hi:Int) (L:List Int):List Sp:=(L.filter fun t=>decide (U t<hi)).map fun t=>(U t,U t+du,())
theorem aN1 {U:Int→Int} {du hi:Int} {L:List Int} {s:Sp}:s∈spF U du hi L ↔ ∃t,t∈L∧U t<hi∧s=(U t,U t+du,()):=by
 unfold spF;rw[kF2];constructor
 ·rintro⟨t,h,rfl⟩;rw[zF2,decide_eq_true_eq]at h;exact⟨t,h.1,h.2,rfl⟩
 ·rintro⟨t,h1,h2,rfl⟩;exact⟨t,zF2.2 ⟨h1,dp h2⟩,rfl⟩
theorem yP1 (U:Int→Int) (du hi:Int) (L:List Int):(spF U du hi L).length≤L.length:=by unfold spF;rw[gG2];exact List.length_filter_le _ _
abbrev Zn :Type:=Int×List (Int×Int×Unit)×List (Int×Int×Int×Int×Int×Unit)×Int×Unit
abbrev zZ :Zn:=(0,[],[],0,())
def okU (Z:Zn) (U:Int→Int) (L:List Int):Prop:=∀t∈L,tE.f Z t=some (U t,()) ∧ -500000000000≤U t∧U t≤500000000000
section
variable (zs : List Zn) (hi : Int) (L : List Int) (U : Int → Int)
theorem lT1 (m:Int×Int×Int×Bool×(Int×Int×Int×Int×Int×Bool×List Int×List Int×List Int×List Int×List (Int×Int×Unit)×List Int×List Int×List Int×List Int×Unit)×List Int×List Int×Unit) (hz:0≤m.1∧m.1<(zs.length:Int)) (hl:L.length≤1000000) (hd:0≤m.2.2.1∧m.2.2.1≤2678400) (hU:okU (zs.getD m.1.toNat zZ) U L):∀(k i:Nat) (acc:List Sp),L.length-i=k→i≤L.length→acc.length≤i →
  nC.l2 zs hi L (L.length:Int) (i:Int) m acc=(qC.f (acc++spF U m.2.2.1 hi (L.drop i)) ()).bind fun t7=>(aE.f t7.1).bind fun t8=>some (t8.1,0,()):=by
 have hlim:eD=17179869184:=rfl;intro k
 induction k with
 | zero=>
  intro i acc hk hi' ha;have e:i=L.length:=by omega
  subst e;rw[nC.l2_eq,jF2];simp(disch:=omega)only[ss,show spF U m.2.2.1 hi []=[]from rfl,zE2]
 | succ k ih=>
  intro i acc hk hi' ha;have hlt:i<L.length:=by omega
  obtain⟨u1,u2,u3⟩:=hU (L.getD i 0) (cW 0 hlt)
  have hst:spF U m.2.2.1 hi (L.drop i)=(if U (L.getD i 0)<hi then [(U (L.getD i 0),U (L.getD i 0)+m.2.2.1,())]else [])++spF U m.2.2.1 hi (L.drop (i+1)):=by
   rw[iB 0 hlt];unfold spF;rw[bH2];by_cases c:U (L.getD i 0)<hi
   ·rw[dp c,if_pos rfl,if_pos c];rfl
   ·rw[dn c,if_neg (by simp),if_neg c];rfl
  rw[nC.l2_eq,hst];simp(disch:=omega)only[ss,u1];by_cases c:U (L.getD i 0)<hi
  ·simp(disch:=omega)only[ss,if_pos c,vE2,hlim];have:=ih (i+1) (acc++[(U (L.getD i 0),U (L.getD i 0)+m.2.2.1,())]) (by omega) (by omega) (by simp;omega);rw[uE2]at this;exact this
  ·simp(disch:=omega)only[ss,if_neg c,dF2];exact ih (i+1) acc (by omega) (by omega) (by omega)
theorem tD1 (m:Int×Int×Int×Bool×(Int×Int×Int×Int×Int×Bool×List Int×List Int×List Int×List Int×List (Int×Int×Unit)×List Int×List Int×List Int×List Int×Unit)×List Int×List Int×Unit) (hz:0≤m.1∧m.1<(zs.length:Int)) (hl:L.length≤1000000) (hd:0≤m.2.2.1∧m.2.2.1≤2678400) (hU:okU (zs.getD m.1.toNat zZ) U L):
  ∃r:List Sp,r.Perm (spF U m.2.2.1 hi L)∧r.Pairwise (fun x y=>x.1≤y.1)∧nC.l2 zs hi L (L.length:Int) 0 m []=some (r.foldl push [],0,()):=by
 have h:=lT1 zs hi L U m hz hl hd hU _ 0 [] rfl (kE2 _) (rE2 _);have hsl:=yP1 U m.2.2.1 hi L
 obtain⟨r,h1,h2,h3⟩:=cZ1 (spF U m.2.2.1 hi L) (by omega) fun s hs=>by obtain⟨t,ht,_,rfl⟩:=aN1.1 hs;have:=(hU t ht).2;dsimp only;omega
 refine⟨r,h2,h3,?_⟩;have hrl:=h2.length_eq;rw[yE2,dF2,h1,qE2]at h;rw[h];simp only[hE2];rw[hT1 r (by omega)];rfl
end
abbrev Yl :Type:=Int×Int×Int×Int×Int×Unit
abbrev zYl :Yl:=(0,0,0,0,0,())
abbrev zSh :Sp:=(0,0,())
def offP (n:Int):Prop:= -64800≤n∧n≤64800
theorem zO (n:Int):oC (qI.f n) (offP n):=by
 unfold offP;rw[qI.f_eq];by_cases c:n ≥ -64800
 ·rw[dp c];exact⟨_,rfl,by rw[decide_eq_true_eq];omega⟩
 ·rw[dn c];exact⟨_,rfl,by simp;omega⟩
def okS (l:List Sp) (j:Nat):Prop:=inT (l.getD j zSh).1∧offP (l.getD j zSh).2.1∧(0<j→(l.getD (j-1) zSh).1+200000≤(l.getD j zSh).1)
def cA1 (l:List Sp):Prop:=(∀j,j<l.length→okS l j)∧l.length≤64
theorem mO1 (l:List Sp) (hl:l.length≤1000000):∀(k i:Nat),l.length-i=k→i≤l.length→(∀j,j<i→inT (l.getD j zSh).1) →
  oC (rB.l1 l l (l.length:Int) (i:Int)) ((∀j,i≤j→j<l.length→okS l j)∧l.length≤64):=by
 intro k
 induction k with
 | zero=>
  intro i hk hil _;rw[rB.l1_eq];simp(disch:=omega)only[ss];refine⟨_,rfl,?_⟩;rw[decide_eq_true_eq];exact⟨fun h=>⟨fun j h1 h2=>by omega,by omega⟩,fun h=>by omega⟩
 | succ k ih=>
  intro i hk hil hin;have hlt:i<l.length:=by omega
  have step:okS l i→oC (rB.l2 l l (l.length:Int) (i:Int) false) ((∀j,i≤j→j<l.length→okS l j)∧l.length≤64):=fun h=>by
   rw[rB.l2_eq];simp(disch:=omega)only[ss];refine(ih (i+1) (by omega) (by omega) fun j hj=>?_).iff ⟨fun q=>⟨fun j h1 h2=>?_,q.2⟩,fun q=>⟨fun j h1 h2=>q.1 j (by omega) h2,q.2⟩⟩
   ·by_cases e:j=i
    ·subst e;exact h.1
    ·exact hin j (by omega)
   ·by_cases e:j=i
    ·subst e;exact h
    ·exact q.1 j (by omega) h2
  have stop:¬okS l i→oC (rB.l2 l l (l.length:Int) (i:Int) true) ((∀j,i≤j→j<l.length→okS l j)∧l.length≤64):=fun h=>by rw[rB.l2_eq,cond_true];exact⟨false,rfl,by simp;intro q;exact absurd (q i (rE2 _) hlt) h⟩
  have hm:=(oH (l.getD i zSh).1).1;obtain⟨b,hb,hi⟩:=zO (l.getD i zSh).2.1;rw[rB.l1_eq];simp(disch:=omega)only[ss,hm];by_cases c1:inT (l.getD i zSh).1
  ·rw[dp c1,lE2,cond_false];simp(disch:=omega)only[ss,hb]
   cases b with
   | false=>
    rw[eF2,cond_true];exact stop fun q=>by have:=hi.2 q.2.1;cases this
   | true=>
    rw[lE2,cond_false];by_cases h0:i=0
    ·simp(disch:=omega)only[ss];exact step ⟨c1,hi.1 rfl,fun q=>by omega⟩
    ·have hp:=hin (i-1) (by omega);have hw:w6 ((l.getD (i-1) zSh).1+200000)=(l.getD (i-1) zSh).1+200000:=wr (by omega) (by omega);simp(disch:=omega)only[ss,hw];by_cases c:(l.getD i zSh).1<(l.getD (i-1) zSh).1+200000
     ·rw[dp c];exact stop fun q=>by have:=q.2.2 (by omega);omega
     ·rw[dn c];exact step ⟨c1,hi.1 rfl,fun _=>by omega⟩
  ·rw[dn c1,eF2,cond_true];exact stop fun q=>c1 q.1
theorem mG1 (l:List Sp) (hl:l.length≤1000000):oC (rB.f l) (cA1 l):=by
 have:=mO1 l hl _ 0 rfl (kE2 _) fun j hj=>by omega
 rw[qE2]at this;rw[rB.f_eq];exact this.iff ⟨fun q=>⟨fun j hj=>q.1 j (kE2 _) hj,q.2⟩,fun q=>⟨fun j _ hj=>q.1 j hj,q.2⟩⟩
def okY (x:Yl):Prop:=1≤x.1∧x.1≤12∧1≤x.2.1∧x.2.1≤5∧0≤x.2.2.1∧x.2.2.1≤6∧0≤x.2.2.2.1∧x.2.2.2.1<86400∧offP x.2.2.2.2.1
def eQ (l:List Yl):Prop:=(∀j,j<l.length→okY (l.getD j zYl))∧2≤(l.getD 1 zYl).1-(l.getD 0 zYl).1∧(l.getD 1 zYl).1-(l.getD 0 zYl).1≤10
theorem iS1 (l:List Yl) (h2:l.length=2):∀(k i:Nat),l.length-i=k→i≤l.length→(∀j,j<i→okY (l.getD j zYl)) →
  oC (nB.l1 l l (l.length:Int) (i:Int)) ((∀j,i≤j→j<l.length→okY (l.getD j zYl))∧2≤(l.getD 1 zYl).1-(l.getD 0 zYl).1∧(l.getD 1 zYl).1-(l.getD 0 zYl).1≤10):=by
 intro k
 induction k with
 | zero=>
  intro i hk hil hin;have a0:=hin 0 (by omega);have a1:=hin 1 (by omega);unfold okY at a0 a1;have hw:w6 ((l.getD 1 zYl).1-(l.getD 0 zYl).1)=(l.getD 1 zYl).1-(l.getD 0 zYl).1:=wr (by omega) (by omega);rw[nB.l1_eq];by_cases c:(l.getD 1 zYl).1-(l.getD 0 zYl).1≥2
  ·simp(disch:=omega)only[ss,hw];refine⟨_,rfl,?_⟩;rw[decide_eq_true_eq];exact⟨fun h=>⟨fun j h1 h2=>by omega,by omega,h⟩,fun h=>h.2.2⟩
  ·simp(disch:=omega)only[ss,hw];exact⟨false,rfl,(fun h=>by cases h),fun h=>absurd h.2.1 c⟩
 | succ k ih=>
  intro i hk hil hin;have hlt:i<l.length:=by omega
  have step:okY (l.getD i zYl)→oC (nB.l2 l l (l.length:Int) (i:Int) false) ((∀j,i≤j→j<l.length→okY (l.getD j zYl))∧2≤(l.getD 1 zYl).1-(l.getD 0 zYl).1∧(l.getD 1 zYl).1-(l.getD 0 zYl).1≤10):=fun h=>by
   rw[nB.l2_eq];simp(disch:=omega)only[ss];refine(ih (i+1) (by omega) (by omega) fun j hj=>?_).iff ⟨fun q=>⟨fun j h1 h2=>?_,q.2⟩,fun q=>⟨fun j h1 h2=>q.1 j (by omega) h2,q.2⟩⟩
   ·by_cases e:j=i
    ·subst e;exact h
    ·exact hin j (by omega)
   ·by_cases e:j=i
    ·subst e;exact h
    ·exact q.1 j (by omega) h2
  have stop:¬okY (l.getD i zYl)→oC (nB.l2 l l (l.length:Int) (i:Int) true) ((∀j,i≤j→j<l.length→okY (l.getD j zYl))∧2≤(l.getD 1 zYl).1-(l.getD 0 zYl).1∧(l.getD 1 zYl).1-(l.getD 0 zYl).1≤10):=fun h=>by rw[nB.l2_eq,cond_true];exact⟨false,rfl,by simp;intro q;exact absurd (q i (rE2 _) hlt) h⟩
  unfold okY at step stop;obtain⟨b,hb,hi⟩:=zO (l.getD i zYl).2.2.2.2.1;rw[nB.l1_eq];simp(disch:=omega)only[dp,cond_true,nF2];by_cases c1:(l.getD i zYl).1<1
  ·rw[dp c1];exact stop fun q=>by omega
  rw[dn c1,cond_false];by_cases c2:(l.getD i zYl).1>12
  ·rw[dp c2];exact stop fun q=>by omega
  rw[dn c2,cond_false];by_cases c3:(l.getD i zYl).2.1<1
  ·rw[dp c3];exact stop fun q=>by omega
  rw[dn c3,cond_false];by_cases c4:(l.getD i zYl).2.1>5
  ·rw[dp c4];exact stop fun q=>by omega
  rw[dn c4,cond_false];by_cases c5:(l.getD i zYl).2.2.1<0
  ·rw[dp c5];exact stop fun q=>by omega
  rw[dn c5,cond_false];by_cases c6:(l.getD i zYl).2.2.1>6
  ·rw[dp c6];exact stop fun q=>by omega
  rw[dn c6,cond_false];by_cases c7:(l.getD i zYl).2.2.2.1<0
  ·rw[dp c7];exact stop fun q=>by omega
  rw[dn c7,cond_false];by_cases c8:(l.getD i zYl).2.2.2.1≥86400
  ·rw[dp c8];exact stop fun q=>by omega
  rw[dn c8,cond_false,hb];simp only[hE2]
  cases b with
  | false=>exact stop fun q=>by have:=hi.2 q.2.2.2.2.2.2.2.2;cases this
  | true=>exact step ⟨by omega,by omega,by omega,by omega,by omega,by omega,by omega,by omega,hi.1 rfl⟩
theorem vK1 (l:List Yl) (h2:l.length=2):oC (nB.f l) (eQ l):=by
 have:=iS1 l h2 _ 0 rfl (kE2 _) fun j hj=>by omega
 rw[qE2]at this;rw[nB.f_eq];exact this.iff ⟨fun q=>⟨fun j hj=>q.1 j (kE2 _) hj,q.2⟩,fun q=>⟨fun j _ hj=>q.1 j hj,q.2⟩⟩
def yJ (z:Zn):Prop:=offP z.1∧cA1 z.2.1 ∧
 ((z.2.2.1=[]∧z.2.2.2.1=0)∨(z.2.2.1.length=2∧eQ z.2.2.1∧1≤z.2.2.2.1∧z.2.2.2.1≤9999∧(z.2.1=[]∨(z.2.1.getD (z.2.1.length-1) zSh).1+200000≤fst_ z.2.2.2.1*86400)))
theorem jQ1 (y m d:Int):pD.f y m d 0 0 0=some (if pJ y m d=true then((fst_ y+d-1+cum y m)*86400,0,())else(0,1,())):=by
 rw[pD.f_eq,yC1];by_cases c:pJ y m d=true
 ·rw[if_pos c,if_pos c];have hv:=eC.1 c;have h1:=tQ y (by omega) (by omega);have h2:=eJ y m;have h3:=qH y m;simp(disch:=omega)only[ss,pD.l1_eq];simp
 ·rw[if_neg c,if_neg c];simp(disch:=omega)only[ss,pD.l1_eq]
theorem gZ (y:Int):pD.f y 1 1 0 0 0=some (if 1≤y∧y≤9999 then(fst_ y*86400,0,())else(0,1,())):=by
 rw[jQ1,rD1];have hm:mlen y 1=31:=by unfold mlen;simp
 by_cases c:1≤y∧y≤9999
 ·rw[if_pos c,if_pos (eC.2 ⟨c.1,c.2,by omega,by omega⟩)]
  congr 3
  omega
 ·rw[if_neg c,if_neg fun q=>c ⟨(eC.1 q).1,(eC.1 q).2.1⟩]
theorem hR1 (z:Zn) (h1:z.2.1.length≤1000000):oC (rD.f z) (yJ z):=by
 obtain⟨base,sh,ys,fE,⟨⟩⟩:=z;dsimp only at h1
 have stop:¬yJ (base,sh,ys,fE,())→oC (rD.l1 true (base,sh,ys,fE,())) (yJ (base,sh,ys,fE,())):=fun q=>by rw[rD.l1_eq,cond_true];exact⟨false,rfl,(fun h=>by cases h),fun h=>absurd h q⟩
 unfold yJ at stop ⊢;dsimp only at stop ⊢;obtain⟨b,hb,hi⟩:=zO base;obtain⟨d,hd,he⟩:=mG1 sh h1;rw[rD.f_eq];dsimp only;rw[hb];simp only[hE2]
 cases b with
 | false=>exact stop fun q=>by have:=hi.2 q.1;cases this
 | true=>
 rw[lE2,cond_false,hd];simp only[hE2]
 cases d with
 | false=>exact stop fun q=>by have:=he.2 q.2.1;cases this
 | true=>
 rw[lE2,rD.l1_eq,cond_false];dsimp only;have hbase:=hi.1 rfl;have hsh:=he.1 rfl;by_cases c0:(ys.length:Int)=0
 ·have e:ys=[]:=aF2 (by omega);subst e;rw[dp c0,cond_true];refine⟨_,rfl,?_⟩;rw[decide_eq_true_eq];exact⟨fun h=>⟨hbase,hsh,.inl ⟨rfl,h⟩⟩,fun h=>h.2.2.elim (fun q=>q.2) fun q=>by simp at q⟩
 ·rw[dn c0,cond_false];have hne:ys≠[]:=fun e=>c0 (by rw[e];rfl)
  by_cases c2:(ys.length:Int)=2
  ·rw[dp c2,cond_true,gZ];obtain⟨e,he',hi'⟩:=vK1 ys (by omega)
   have st2:∀x,¬(offP base∧cA1 sh∧((ys=[]∧fE=0)∨(ys.length=2∧eQ ys∧1≤fE∧fE≤9999∧(sh=[]∨(sh.getD (sh.length-1) zSh).1+200000≤fst_ fE*86400))))→oC (rD.l2 x true (base,sh,ys,fE,())) (offP base∧cA1 sh∧((ys=[]∧fE=0)∨(ys.length=2∧eQ ys∧1≤fE∧fE≤9999∧(sh=[]∨(sh.getD (sh.length-1) zSh).1+200000≤fst_ fE*86400)))):=fun x q=>by rw[rD.l2_eq,cond_true];exact⟨false,rfl,(fun h=>by cases h),fun h=>absurd h q⟩
   by_cases c3:1≤fE∧fE≤9999
   ·rw[if_pos c3];simp only[hE2,decide_true,lE2,cond_false];rw[he'];simp only[hE2]
    cases e with
    | false=>exact st2 _ fun q=>q.2.2.elim (fun q=>hne q.1) fun q=>by have:=hi'.2 q.2.1;cases this
    | true=>
     rw[lE2,rD.l2_eq,cond_false];dsimp only;by_cases c4:(sh.length:Int)=0
     ·have e:sh=[]:=aF2 (by omega);rw[dp c4,cond_true];exact⟨true,rfl,fun _=>⟨hbase,hsh,.inr ⟨by omega,hi'.1 rfl,c3.1,c3.2,.inl e⟩⟩,fun _=>rfl⟩
     ·have hb2:=hsh.1 (sh.length-1) (by omega);have hbt:=hb2.1;have hw:w6 ((sh.length:Int)-1)=((sh.length-1:Nat):Int):=by rw[wr (by omega) (by omega)];omega
      have hw2:w6 ((sh.getD (sh.length-1) zSh).1+200000)=(sh.getD (sh.length-1) zSh).1+200000:=wr (by omega) (by omega);rw[dn c4,cond_false,hw];simp(disch:=omega)only[ss,hw2];refine⟨_,rfl,?_⟩;rw[decide_eq_true_eq];constructor
      ·exact fun h=>⟨hbase,hsh,.inr ⟨by omega,hi'.1 rfl,c3.1,c3.2,.inr h⟩⟩
      ·exact fun h=>h.2.2.elim (fun q=>absurd q.1 hne) fun q=>q.2.2.2.2.elim (fun e=>absurd (by rw[e];rfl) c4) id
   ·rw[if_neg c3];exact st2 _ fun q=>q.2.2.elim (fun q=>hne q.1) fun q=>c3 ⟨q.2.2.1,q.2.2.2.1⟩
  ·rw[dn c2,cond_false];exact⟨false,rfl,(fun h=>by cases h),fun h=>h.2.2.elim (fun q=>absurd q.1 hne) fun q=>absurd (by have:=q.1;omega) c2⟩
theorem pL1 (m:Int):xK.f m=some (decide (1≤m∧m≤12),()):=by
 rw[xK.f_eq];by_cases c:1≤m
 ·by_cases c2:m≤12
  ·simp(disch:=omega)only[ss,ge_iff_le]
  ·simp(disch:=omega)only[ss,ge_iff_le]
 ·simp(disch:=omega)only[ss,ge_iff_le]
def nth1 (y m w:Int):Int:=1+(w-(fst_ y+cum y m+3))%7
theorem fV (y m w:Int):1≤nth1 y m w∧nth1 y m w≤7:=by unfold nth1;omega
theorem oD1 (y m:Int) (h1:1≤m) (h2:m≤12):28≤mlen y m∧mlen y m≤31:=by
 have hb:=qH y m;refine⟨?_,hb.2.1⟩;unfold mlen;split
 ·split <;> omega
 ·split
  ·omega
  ·rw[if_pos ⟨h1,h2⟩];omega
theorem pV1 (y m k w:Int) (hy:1≤y∧y≤9999) (hm:1≤m∧m≤12) (hk:1≤k∧k≤5) (hw:0≤w∧w≤6):pC.f y m k w=pC.l2 y m k (nth1 y m w+7*(k-1)):=by
 have hN:=qN y m 1 hy.1 (by omega) hm.1 hm.2 (by omega) (by omega);have e1:fst_ y+1-1+cum y m=fst_ y+cum y m:=by omega
 rw[e1]at hN;have hb:=tK1 (fst_ y+cum y m);have hn:=fV y m w;have e:1+(w-wk (fst_ y+cum y m)+7)%7=nth1 y m w:=by unfold wk nth1;omega
 rw[pC.f_eq,cS,dp (show 1≤y∧y≤9999 from hy)];simp only[hE2];rw[pL1,dp (show 1≤m∧m≤12 from hm)];simp only[hE2];rw[qU,dp (show 0≤w∧w≤6 from hw)];rw[dn (show ¬k<1 by omega),dn (show ¬k>5 by omega)];simp only[hE2,lE2,cond_false];rw[pC.l1_eq,cond_false,hN];simp only[hE2];rw[xI];simp(disch:=omega)only[ss,tmn (show(0:Int)≤w-wk (fst_ y+cum y m)+7 by omega),e]
def nthL (y m w:Int):Int:=if nth1 y m w+28>mlen y m then nth1 y m w+21 else nth1 y m w+28
theorem tD2 (y m w:Int) (hy:1≤y∧y≤9999) (hm:1≤m∧m≤12) (hw:0≤w∧w≤6):pC.f y m 5 w=some (nthL y m w,0,()):=by
 have hn:=fV y m w;have hl:=oD1 y m hm.1 hm.2;have hL:=tI y m (by omega);unfold nthL;rw[pV1 y m 5 w hy hm (by omega) hw,pC.l2_eq,show nth1 y m w+7*(5-1)=nth1 y m w+28 by omega];by_cases c:nth1 y m w+28>mlen y m
 ·rw[if_pos c];simp(disch:=omega)only[ss,hL,pC.l3_eq];rw[pC.l2_eq];have e:nth1 y m w+28-7=nth1 y m w+21:=by omega
  simp(disch:=omega)only[ss,hL,pC.l3_eq,e]
 ·rw[if_neg c];simp(disch:=omega)only[ss,hL,pC.l3_eq]
def dN (y m k w:Int):Int:=if k=5 then nthL y m w else nth1 y m w+7*(k-1)
theorem cX1 (y m k w:Int) (hy:1≤y∧y≤9999) (hm:1≤m∧m≤12) (hk:1≤k∧k≤5) (hw:0≤w∧w≤6):pC.f y m k w=some (dN y m k w,0,()):=by
 unfold dN;by_cases c:k=5
 ·subst c;rw[if_pos rfl];exact tD2 y m w hy hm hw
 ·rw[if_neg c,pV1 y m k w hy hm hk hw,pC.l2_eq];simp(disch:=omega)only[ss,pC.l3_eq]
theorem pM (y m k w:Int) (hm:1≤m∧m≤12) (hk:1≤k∧k≤5):1≤dN y m k w∧dN y m k w≤mlen y m:=by
 have h1:=fV y m w;have h2:=oD1 y m hm.1 hm.2;unfold dN nthL;split
 ·split <;> omega
 ·omega
def yAt (x:Yl) (y:Int):Int:=(fst_ y+dN y x.1 x.2.1 x.2.2.1-1+cum y x.1)*86400+x.2.2.2.1
def yrL (z:Zn) (y:Int):List Sp:=if z.2.2.1=[]∨y<z.2.2.2.1∨y>9999 then []else z.2.2.1.map fun x=>(yAt x y,x.2.2.2.2.1,())
theorem kM1 (y:Int) (hy:1≤y∧y≤9999) (l:List Yl) (hl:l.length≤1000) (hok:∀j,j<l.length→okY (l.getD j zYl)):∀(k i:Nat) (acc:List Sp),l.length-i=k→i≤l.length→acc.length≤i →
  xC.l2 y l (l.length:Int) (i:Int) acc=some (acc++(l.drop i).map fun x=>(yAt x y,x.2.2.2.2.1,()),()):=by
 have hlim:eD=17179869184:=rfl;intro k
 induction k with
 | zero=>
  intro i acc hk hi ha;have e:i=l.length:=by omega
  subst e;rw[xC.l2_eq,jF2];simp(disch:=omega)only[ss,List.map_nil,zE2]
 | succ k ih=>
  intro i acc hk hi ha;have hlt:i<l.length:=by omega
  have ho:=hok i hlt;rw[iB zYl hlt,qF2];have hn:=cX1 y (l.getD i zYl).1 (l.getD i zYl).2.1 (l.getD i zYl).2.2.1 hy (by unfold okY at ho;omega) (by unfold okY at ho;omega) (by unfold okY at ho;omega);have hv:=pM y (l.getD i zYl).1 (l.getD i zYl).2.1 (l.getD i zYl).2.2.1 (by unfold okY at ho;omega) (by unfold okY at ho;omega);have hmk:=jQ1 y (l.getD i zYl).1 (dN y (l.getD i zYl).1 (l.getD i zYl).2.1 (l.getD i zYl).2.2.1);rw[if_pos (eC.2 ⟨hy.1,hy.2,hv.1,hv.2⟩)]at hmk;have f1:=tQ y (by omega) (by omega);have f2:=eJ y (l.getD i zYl).1;have f3:=qH y (l.getD i zYl).1;have hw:w6 ((fst_ y+dN y (l.getD i zYl).1 (l.getD i zYl).2.1 (l.getD i zYl).2.2.1-1+cum y (l.getD i zYl).1)*86400+(l.getD i zYl).2.2.2.1)=yAt (l.getD i zYl) y:=by unfold yAt;unfold okY at ho;exact wr (by omega) (by omega)
  rw[xC.l2_eq];simp(disch:=omega)only[ss,hn,hmk,hw,vE2,hlim];refine(ih (i+1) (acc++[(yAt (l.getD i zYl) y,(l.getD i zYl).2.2.2.2.1,())]) (by omega) (by omega) (by simp;omega)).trans ?_;rw[uE2];rfl
theorem lM (z:Zn) (hz:yJ z) (y:Int):xC.f z y=some (yrL z y,()):=by
 obtain⟨base,sh,ys,fE,⟨⟩⟩:=z;obtain⟨h1,h2,h3⟩:=hz;dsimp only at h1 h2 h3;have l1t:xC.l1 y true (base,sh,ys,fE,())=some ([],()):=by rw[xC.l1_eq,cond_true]
 unfold yrL;rw[xC.f_eq];dsimp only;by_cases c0:(ys.length:Int)=0
 ·have e:ys=[]:=aF2 (by omega);rw[dp c0,cond_true,l1t,if_pos (.inl e)]
 ·rw[dn c0,cond_false];have hne:ys≠[]:=fun e=>c0 (by rw[e];rfl)
  by_cases c1:y<fE
  ·rw[dp c1,cond_true,l1t,if_pos (.inr (.inl c1))]
  ·rw[dn c1,cond_false];by_cases c2:y>9999
   ·rw[dp c2,l1t,if_pos (.inr (.inr c2))]
   ·rw[dn c2,xC.l1_eq,cond_false,if_neg (by rintro(q | q | q);exact hne q;exact c1 q;exact c2 q)];rcases h3 with⟨q,_⟩ | ⟨q1,q2,q3,q4,_⟩
    ·exact absurd q hne
    ·have:=kM1 y (by omega) ys (by omega) q2.1 _ 0 [] rfl (kE2 _) (rE2 _);rw[yE2,dF2,qE2]at this;exact this
def nrL (z:Zn) (Y:Int):List Sp:=z.2.1++(if Y<z.2.2.2.1 then yrL z z.2.2.2.1 else yrL z (Y-1)++(yrL z Y++yrL z (Y+1)))
theorem mM (z:Zn) (hz:yJ z) (y:Int):(yrL z y).length≤2:=by
 unfold yrL;split
 ·simp
 ·rw[gG2];rcases hz.2.2 with⟨q,_⟩ | ⟨q,_⟩
  ·rw[q];simp
  ·omega
theorem wT1 (l:List Sp) (h:l.length≤1000000):lD.f l=some (l,()):=by rw[lD.f_sem];show(bif decide (List.length l≤eD)then some (l,())else none)=_;rw[dp (by simp only[eD];omega),cond_true]
theorem zN1 (z:Zn) (hz:yJ z) (u:Int) (hu:inT u):∃Y m d,iH (u/86400) Y m d∧vF.f z u=some (nrL z Y,()):=by
 have hlim:eD=17179869184:=rfl;have hd:=uJ hu;obtain⟨Y,m,d,h1,h2,_⟩:=kJ (u/86400) hd.1 hd.2;obtain⟨v1,v2,v3,v4⟩:=eC.1 h1.1;refine⟨Y,m,d,h1,?_⟩;have hD:=(qF u (by omega) (by omega)).1;have hl:=hz.2.1.2;rw[vF.f_eq,hD];simp only[hE2];rw[h2];simp only[hE2];rw[wT1 _ (by omega)];simp only[hE2];unfold nrL;have y1:=mM z hz z.2.2.2.1;have y2:=mM z hz (Y-1);have y3:=mM z hz Y;have y4:=mM z hz (Y+1);by_cases c:Y<z.2.2.2.1
 ·rw[dp c,if_pos c,cond_true,lM z hz];simp(disch:=omega)only[ss,hlim]
 ·rw[dn c,if_neg c,cond_false,wr (by omega) (by omega),vF.l1_eq,lM z hz];simp(disch:=omega)only[ss,hlim,show Y-1+1=Y by omega];rw[vF.l1_eq,lM z hz];simp(disch:=omega)only[ss,hlim,jE2];rw[vF.l1_eq,lM z hz];simp(disch:=omega)only[ss,hlim,jE2];rw[vF.l1_eq];simp(disch:=omega)only[ss,uE2]
theorem nM1 (z:Zn) (hz:yJ z) (Y:Int):∀s∈nrL z Y,offP s.2.1:=by
 have hy:∀y,∀s∈yrL z y,offP s.2.1:=by
  intro y s hs;unfold yrL at hs;split at hs
  ·cases hs
  ·obtain⟨x,hx,rfl⟩:=kF2.1 hs;rcases hz.2.2 with⟨q,_⟩ | ⟨_,q,_⟩
   ·rw[q]at hx;cases hx
   ·obtain⟨j,hj,rfl⟩:=oG2 hx;have:=(q.1 j hj).2.2.2.2.2.2.2.2;rwa[oE2,sE2 hj]at this
 intro s hs;unfold nrL at hs;rcases xE2.1 hs with hs | hs
 ·obtain⟨j,hj,rfl⟩:=oG2 hs;have:=(hz.2.1.1 j hj).2.1;rwa[oE2,sE2 hj]at this
 ·split at hs
  ·exact hy _ s hs
  ·rcases xE2.1 hs with hs | hs
   ·exact hy _ s hs
   ·rcases xE2.1 hs with hs | hs
    ·exact hy _ s hs
    ·exact hy _ s hs
theorem xM1 (z:Zn) (hz:yJ z) (Y:Int):(nrL z Y).length≤100:=by
 have y1:=mM z hz z.2.2.2.1;have y2:=mM z hz (Y-1);have y3:=mM z hz Y;have y4:=mM z hz (Y+1);have hl:=hz.2.1.2;unfold nrL;split
 ·rw[jE2];omega
 ·rw[jE2,jE2,jE2];omega
def befL (u:Int) (p:Bool×Sp) (s:Sp):Bool×Sp:=if s.1≤u then(true,s)else p
theorem iR1 (u:Int) (l:List Sp) (hl:l.length≤1000000) (y0:Sp):∀(k i:Nat) (b:Bool) (y:Sp),l.length-i=k→i≤l.length →
  yE.l1 u b l (l.length:Int) (i:Int) y0 y=some (((l.drop i).foldl (befL u) (b,y)).2,((l.drop i).foldl (befL u) (b,y)).1,()):=by
 intro k
 induction k with
 | zero=>
  intro i b y hk hi;have e:i=l.length:=by omega
  subst e;rw[yE.l1_eq,jF2];simp(disch:=omega)only[ss,List.foldl_nil]
 | succ k ih=>
  intro i b y hk hi;have hlt:i<l.length:=by omega
  rw[yE.l1_eq,iB zSh hlt,iH2];by_cases c:(l.getD i zSh).1≤u
  ·have e:befL u (b,y) (l.getD i zSh)=(true,l.getD i zSh):=by unfold befL;rw[if_pos c]
   rw[e];simp(disch:=omega)only[ss];exact ih (i+1) true _ (by omega) (by omega)
  ·have e:befL u (b,y) (l.getD i zSh)=(b,y):=by unfold befL;rw[if_neg c]
   rw[e];simp(disch:=omega)only[ss];exact ih (i+1) b y (by omega) (by omega)
theorem cU1 (u:Int) (l:List Sp) (hl:l.length≤1000000) (y0:Sp):∀(k i:Nat),l.length-i=k→i≤l.length →
  oF.l1 u l (l.length:Int) (i:Int) y0=some (match(l.drop i).find? (fun s=>decide (s.1>u))with | some s=>(s,true,()) | none=>(zSh,false,())):=by
 intro k
 induction k with
 | zero=>
  intro i hk hi;have e:i=l.length:=by omega
  subst e;rw[oF.l1_eq,jF2];simp(disch:=omega)only[ss,List.find?_nil]
 | succ k ih=>
  intro i hk hi;have hlt:i<l.length:=by omega
  rw[oF.l1_eq,iB zSh hlt,List.find?_cons];by_cases c:(l.getD i zSh).1>u
  ·rw[dp c];simp(disch:=omega)only[ss]
  ·rw[dn c];simp(disch:=omega)only[ss];exact ih (i+1) (by omega) (by omega)
def offV (z:Zn) (Y u:Int):Int:=if((nrL z Y).foldl (befL u) (false,zSh)).1=true then((nrL z Y).foldl (befL u) (false,zSh)).2.2.1 else z.1
def aftV (z:Zn) (Y u:Int):Option Sp:=(nrL z Y).find? (fun s=>decide (s.1>u))
theorem dB1 (z:Zn) (hM:rD.f z=some (true,())) (u:Int) (hu:inT u):wK.f z u=some (true,()):=by have hm:=(oH u).1;rw[wK.f_eq,hm,dp hu];simp only[hE2,cond_true];rw[hM];rfl
section
variable (z : Zn) (hz : yJ z) (hM : rD.f z = some (true, ()))
include hz hM
theorem aK1 (u:Int) (hu:inT u):∃Y m d,iH (u/86400) Y m d∧dL.f z u=some (offV z Y u,())∧oF.f z u=some (match aftV z Y u with | some s=>(s,true,()) | none=>(zSh,false,())):=by
 obtain⟨Y,m,d,h1,h2⟩:=zN1 z hz u hu;have hl:=xM1 z hz Y;refine⟨Y,m,d,h1,?_,?_⟩
 ·have hb:=iR1 u (nrL z Y) (by omega) zSh _ 0 false zSh rfl (kE2 _);rw[yE2,qE2]at hb;rw[dL.f_eq,dB1 z hM u hu];simp only[hE2,lE2,cond_false];rw[yE.f_eq,dB1 z hM u hu];simp only[hE2,lE2,cond_false];rw[h2];simp only[hE2];rw[hb];simp only[hE2];unfold offV
  cases((nrL z Y).foldl (befL u) (false,zSh)).1 with
  | true=>rw[if_pos rfl];rfl
  | false=>rw[if_neg (by simp)];rfl
 ·have ha:=cU1 u (nrL z Y) (by omega) zSh _ 0 rfl (kE2 _);rw[yE2,qE2]at ha;rw[oF.f_eq,dB1 z hM u hu];simp only[hE2,lE2,cond_false];rw[h2];simp only[hE2];exact ha
end
theorem oF1 (u:Int):∀(l:List Sp) (b:Bool) (y:Sp),(∀s∈l,offP s.2.1)→(b=true→offP y.2.1)→(l.foldl (befL u) (b,y)).1=true→offP (l.foldl (befL u) (b,y)).2.2.1
 | [],b,y,_,h,q=>h q
 | s::l,b,y,h1,h2,q=>by
  rw[iH2]at q ⊢;have hs:=h1 s (by simp);by_cases c:s.1≤u
  ·rw[show befL u (b,y) s=(true,s)from if_pos c]at q ⊢;exact oF1 u l true s (fun x hx=>h1 x (mE2 _ hx)) (fun _=>hs) q
  ·rw[show befL u (b,y) s=(b,y)from if_neg c]at q ⊢;exact oF1 u l b y (fun x hx=>h1 x (mE2 _ hx)) h2 q
theorem wE1 (z:Zn) (hz:yJ z) (Y u:Int):offP (offV z Y u):=by
 unfold offV;split
 ·rename_i h;exact oF1 u _ false zSh (nM1 z hz Y) (fun q=>by cases q) h
 ·exact hz.1
def utcV (o:Int) (a:Option Sp) (t:Int):Int:=match a with
 | none=>t-o
 | some s=>if t-o<s.1 then t-o else if t-s.2.1≥s.1 then t-s.2.1 else t-o
theorem cM1 (z:Zn) (hz:yJ z) (hM:rD.f z=some (true,())) (t:Int) (ht: -62104060800≤t∧t<253370764800):
  ∃Y m d,iH ((t-64800)/86400) Y m d∧tE.f z t=some (utcV (offV z Y (t-64800)) (aftV z Y (t-64800)) t,())∧t-64800≤utcV (offV z Y (t-64800)) (aftV z Y (t-64800)) t∧utcV (offV z Y (t-64800)) (aftV z Y (t-64800)) t≤t+64800:=by
 obtain⟨Y,m,d,h1,h2,h3⟩:=aK1 z hz hM (t-64800) ⟨by omega,by omega⟩;have hb:=wE1 z hz Y (t-64800);have hw:cL.f t=some (true,()):=by rw[cL.f_eq,gZ,gZ,if_pos (by omega),if_pos (by omega)];simp only[hE2];rw[show fst_ 2*86400 = -62104060800 by decide,show fst_ 9999*86400=253370764800 by decide];simp(disch:=omega)only[ss,ge_iff_le]
 refine⟨Y,m,d,h1,?_⟩;have hx:w6 (t-64800)=t-64800:=wr (by omega) (by omega);rw[tE.f_eq,hw];simp only[hE2,lE2,cond_false];rw[hM];simp only[hE2,lE2];rw[tE.l1_eq,cond_false,hx,h2];simp only[hE2];rw[h3];generalize offV z Y (t-64800)=o at hb;have hao:∀s,aftV z Y (t-64800)=some s→offP s.2.1:=fun s hs=>nM1 z hz Y s (List.mem_of_find?_eq_some hs)
 generalize aftV z Y (t-64800)=a at hao;unfold offP at hb
 cases a with
 | none=>
  simp only[hE2,eF2,cond_true];rw[tE.l2_eq,cond_true,wr (by omega) (by omega)];unfold utcV;dsimp only;exact⟨rfl,by omega,by omega⟩
 | some s=>
  have hs:=hao s rfl;unfold offP at hs;simp only[hE2,lE2,cond_false];rw[tE.l2_eq,wr (x:=t-o) (by omega) (by omega),wr (x:=t-s.2.1) (by omega) (by omega)];unfold utcV;dsimp only;by_cases c1:t-o<s.1
  ·rw[dp c1,cond_true,if_pos c1];exact⟨rfl,by omega,by omega⟩
  ·rw[dn c1,cond_false,if_neg c1];by_cases c2:t-s.2.1≥s.1
   ·rw[dp c2,cond_true,if_pos c2];exact⟨rfl,by omega,by omega⟩
   ·rw[dn c2,cond_false,if_neg c2];exact⟨rfl,by omega,by omega⟩
theorem vU1 (x:Yl) (hx:okY x) (y:Int) (hy:1≤y∧y≤9999):fst_ y*86400≤yAt x y∧yAt x y<fst_ (y+1)*86400:=by unfold okY at hx;have hv:=pM y x.1 x.2.1 x.2.2.1 (by omega) (by omega);have hd:=mF (n:=fst_ y+dN y x.1 x.2.1 x.2.2.1-1+cum y x.1) ⟨eC.2 ⟨hy.1,hy.2,hv.1,hv.2⟩,rfl⟩;unfold yAt;omega
section
variable (a b : Yl) (ha : okY a) (hb : okY b) (h2 : 2 ≤ b.1 - a.1) (h10 : b.1 - a.1 ≤ 10)
include ha hb h2
theorem zS (y:Int) (hy:1≤y∧y≤9999):yAt a y+200000≤yAt b y:=by unfold okY at ha hb;have hva:=pM y a.1 a.2.1 a.2.2.1 (by omega) (by omega);have hvb:=pM y b.1 b.2.1 b.2.2.1 (by omega) (by omega);have c1:=oE y a.1 (by omega) (by omega);have c2:=oE y (a.1+1) (by omega) (by omega);have c3:=mK y (a:=a.1+1+1) (b:=b.1) (by omega) (by omega) (by omega);have l1:=oD1 y (a.1+1) (by omega) (by omega);unfold yAt;omega
include h10
theorem mS1 (y:Int) (hy:1≤y∧y+1≤9999):yAt b y+200000≤yAt a (y+1):=by
 unfold okY at ha hb;have hva:=pM (y+1) a.1 a.2.1 a.2.2.1 (by omega) (by omega);have hvb:=pM y b.1 b.2.1 b.2.2.1 (by omega) (by omega);have c1:=oE y b.1 (by omega) (by omega);have c2:=oE y 12 (by omega) (by omega);have l12:mlen y 12=31:=by unfold mlen;simp
 have f1:=lH y hy.1;have c0:=eJ (y+1) a.1;rw[show(12+1:Int)=13 from rfl]at c2;unfold yAt;by_cases c:b.1≤11
 ·have c3:=mK y (a:=b.1+1) (b:=12) (by omega) (by omega) (by omega);omega
 ·have e:b.1=12:=by omega
  rw[e]at c1 ⊢;have d1:=oE (y+1) 1 (by omega) (by omega);have d2:mlen (y+1) 1=31:=by unfold mlen;simp
  rw[show(1+1:Int)=2 from rfl,rD1]at d1;have d3:=mK (y+1) (a:=2) (b:=a.1) (by omega) (by omega) (by omega);rw[show(12+1:Int)=13 from rfl]at c1;rw[e]at hvb;omega
end
def Sh (z:Zn) (s:Sp):Prop:=s∈z.2.1 ∨ ∃y,z.2.2.2.1≤y∧y≤9999∧s∈yrL z y
theorem pW {z:Zn} (hz:yJ z) {y:Int} {s:Sp} (h:s∈yrL z y):∃a b:Yl,okY a∧okY b∧2≤b.1-a.1∧b.1-a.1≤10∧1≤z.2.2.2.1∧z.2.2.2.1≤y∧y≤9999∧z.2.2.1=[a,b]∧(z.2.1=[]∨(z.2.1.getD (z.2.1.length-1) zSh).1+200000≤fst_ z.2.2.2.1*86400):=by
 unfold yrL at h;split at h
 ·cases h
 ·rename_i hn;rcases hz.2.2 with⟨q,_⟩ | ⟨q1,q2,q3,q4,q5⟩
  ·exact absurd (.inl q) hn
  ·have hy1:¬y<z.2.2.2.1:=fun q=>hn (.inr (.inl q))
   have hy2:¬y>9999:=fun q=>hn (.inr (.inr q))
   obtain⟨p1,p2,p3⟩:=q2
   match hl:z.2.2.1,q1 with
   | [a,b],_=>
    rw[hl]at p1 p2 p3;exact⟨a,b,p1 0 (by simp),p1 1 (by simp),p2,p3,q3,by omega,by omega,rfl,q5⟩
theorem rF1 {z:Zn} {a b:Yl} (h:z.2.2.1=[a,b]) {y:Int} (h1:z.2.2.2.1≤y) (h2:y≤9999):yrL z y=[(yAt a y,a.2.2.2.2.1,()),(yAt b y,b.2.2.2.2.1,())]:=by unfold yrL;rw[if_neg (by rintro(q | q | q);(rw[h]at q;cases q);omega;omega),h];rfl
theorem bX {z:Zn} (hz:yJ z) {y:Int} {s:Sp} (h:s∈yrL z y):fst_ y*86400≤s.1∧s.1<fst_ (y+1)*86400∧1≤z.2.2.2.1∧z.2.2.2.1≤y∧y≤9999:=by
 obtain⟨a,b,ha,hb,_,_,f1,f2,f3,hl,_⟩:=pW hz h;rw[rF1 hl f2 f3]at h;simp only[pE2,List.not_mem_nil,or_false]at h;rcases h with rfl | rfl
 ·have:=vU1 a ha y ⟨by omega,f3⟩;exact⟨this.1,this.2,f1,f2,f3⟩
 ·have:=vU1 b hb y ⟨by omega,f3⟩;exact⟨this.1,this.2,f1,f2,f3⟩
theorem jY1 {a b:Int} (h0:1≤a) (h:a<b):fst_ a*86400+86400*365≤fst_ b*86400:=by have:=yZ h0 h;omega
theorem kO1 {z:Zn} (hz:yJ z) {s t:Sp} (hs:Sh z s) (ht:Sh z t):s=t∨s.1+200000≤t.1∨t.1+200000≤s.1:=by
 have hsh:=hz.2.1.1;have pw:∀(j i:Nat),i<j→j<z.2.1.length→(z.2.1.getD i zSh).1+200000≤(z.2.1.getD j zSh).1:=by
  intro j
  induction j with
  | zero=>intro i h1;omega
  | succ j ih=>
   intro i h1 h2;have h3:=(hsh (j+1) h2).2.2 (by omega);rw[Nat.add_sub_cancel]at h3;by_cases c:i=j
   ·subst c;exact h3
   ·have:=ih i (by omega) (by omega);omega
 have own:∀s∈z.2.1,∃i,i<z.2.1.length∧s=z.2.1.getD i zSh:=fun s h=>by obtain⟨i,hi,rfl⟩:=oG2 h;exact⟨i,hi,by rw[oE2,sE2 hi];rfl⟩
 have last:∀s∈z.2.1,s.1≤(z.2.1.getD (z.2.1.length-1) zSh).1:=fun s h=>by
  obtain⟨i,hi,rfl⟩:=own s h;by_cases c:i=z.2.1.length-1
  ·rw[←c];exact vF2 _
  ·have:=pw (z.2.1.length-1) i (by omega) (by omega);omega
 have mix:∀s∈z.2.1,∀y t,t∈yrL z y→s.1+200000≤t.1:=fun s h y t ht=>by
  obtain⟨a,b,ha,hb,g1,g2,f1,f2,f3,hl,q⟩:=pW hz ht;have h1:=bX hz ht;have h2:=last s h;have h3:=tD (a:=z.2.2.2.1) (b:=y) f1 f2;rcases q with q | q
  ·rw[q]at h;cases h
  ·omega
 rcases hs with hs | ⟨y,y1,y2,hs⟩
 ·rcases ht with ht | ⟨w,w1,w2,ht⟩
  ·obtain⟨i,hi,rfl⟩:=own s hs;obtain⟨j,hj,rfl⟩:=own t ht;rcases Nat.lt_trichotomy i j with c | c | c
   ·exact .inr (.inl (pw j i c hj))
   ·rw[c];exact .inl rfl
   ·exact .inr (.inr (pw i j c hi))
  ·exact .inr (.inl (mix s hs w t ht))
 ·rcases ht with ht | ⟨w,w1,w2,ht⟩
  ·exact .inr (.inr (mix t ht y s hs))
  ·have two:∀(y w:Int) (s t:Sp),z.2.2.2.1≤y→y≤9999→z.2.2.2.1≤w→w≤9999→s∈yrL z y→t∈yrL z w→y<w→s.1+200000≤t.1:=by
    intro y w s t y1 y2 w1 w2 hs ht c;obtain⟨a,b,ha,hb,g1,g2,f1,f2,f3,hl,q⟩:=pW hz hs;by_cases e:w=y+1
    ·subst e;rw[rF1 hl y1 y2]at hs;rw[rF1 hl w1 w2]at ht;have n1:=mS1 a b ha hb g1 g2 y ⟨by omega,by omega⟩;have n2:=zS a b ha hb g1 y ⟨by omega,by omega⟩;have n3:=zS a b ha hb g1 (y+1) ⟨by omega,by omega⟩;simp only[pE2,List.not_mem_nil,or_false]at hs ht;rcases hs with rfl | rfl <;> rcases ht with rfl | rfl <;> (dsimp only;omega)
    ·have h1:=bX hz hs;have h2:=bX hz ht;have h3:=jY1 (a:=y+1) (b:=w) (by omega) (by omega);omega
   rcases yH2 y w with c | c | c
   ·exact .inr (.inl (two y w s t y1 y2 w1 w2 hs ht c))
   ·subst c;obtain⟨a,b,ha,hb,g1,g2,f1,f2,f3,hl,q⟩:=pW hz hs;rw[rF1 hl y1 y2]at hs ht;have n2:=zS a b ha hb g1 y ⟨by omega,by omega⟩;simp only[pE2,List.not_mem_nil,or_false]at hs ht;rcases hs with rfl | rfl <;> rcases ht with rfl | rfl
    ·exact .inl rfl
    ·exact .inr (.inl n2)
    ·exact .inr (.inr n2)
    ·exact .inl rfl
   ·exact .inr (.inr (two w y t s w1 w2 y1 y2 ht hs c))
theorem iG1 {z:Zn} (hz:yJ z) {s t:Sp} (hs:Sh z s) (ht:Sh z t) (h:s.1=t.1):s=t:=by
 rcases kO1 hz hs ht with q | q | q
 ·exact q
 ·omega
 ·omega
theorem fB2 {z:Zn} (hz:yJ z) {Y:Int} {s:Sp} (h:s∈nrL z Y):Sh z s:=by
 have hy:∀y,s∈yrL z y→Sh z s:=fun y q=>by have:=bX hz q;exact .inr ⟨y,this.2.2.2.1,this.2.2.2.2,q⟩
 unfold nrL at h;rcases xE2.1 h with h | h
 ·exact .inl h
 ·split at h
  ·exact hy _ h
  ·rcases xE2.1 h with h | h
   ·exact hy _ h
   ·rcases xE2.1 h with h | h
    ·exact hy _ h
    ·exact hy _ h
theorem qZ {z:Zn} (hz:yJ z) {Y u:Int} (hY:1≤Y∧Y≤9999) (hu:fst_ Y*86400≤u∧u<fst_ (Y+1)*86400) {s:Sp} (h:Sh z s):s∈nrL z Y∨(u<s.1 ∧ ∃t∈nrL z Y,u<t.1∧t.1≤s.1)∨(s.1≤u ∧ ∃t∈nrL z Y,t.1≤u∧s.1≤t.1):=by
 rcases h with h | ⟨y,y1,y2,h⟩
 ·exact .inl (bF2 _ h)
 ·obtain⟨a,b,ha,hb,g1,g2,f1,f2,f3,hl,q⟩:=pW hz h;have hi:=bX hz h
  have some_in:∀w,z.2.2.2.1≤w→w≤9999 → ∃t∈yrL z w,fst_ w*86400≤t.1∧t.1<fst_ (w+1)*86400:=fun w w1 w2=>by
   have e:=rF1 hl w1 w2;have hm:((yAt a w,a.2.2.2.2.1,()):Sp)∈yrL z w:=by rw[e];simp
   have:=bX hz hm;exact⟨_,hm,this.1,this.2.1⟩
  by_cases c:Y<z.2.2.2.1
  ·have hn:nrL z Y=z.2.1++yrL z z.2.2.2.1:=by unfold nrL;rw[if_pos c]
   by_cases e:y=z.2.2.2.1
   ·subst e;exact .inl (by rw[hn];exact tE2 _ h)
   ·obtain⟨t,t1,t2,t3⟩:=some_in z.2.2.2.1 (vF2 _) (by omega);have k1:=tD (a:=Y+1) (b:=z.2.2.2.1) (by omega) (by omega);have k2:=tD (a:=z.2.2.2.1+1) (b:=y) (by omega) (by omega);exact .inr (.inl ⟨by omega,t,by rw[hn];exact tE2 _ t1,by omega,by omega⟩)
  ·have hn:nrL z Y=z.2.1++(yrL z (Y-1)++(yrL z Y++yrL z (Y+1))):=by unfold nrL;rw[if_neg c]
   by_cases e0:y=Y-1
   ·subst e0;exact .inl (by rw[hn];exact tE2 _ (bF2 _ h))
   ·by_cases e1:y=Y
    ·subst e1;exact .inl (by rw[hn];exact tE2 _ (tE2 _ (bF2 _ h)))
    ·by_cases e2:y=Y+1
     ·subst e2;exact .inl (by rw[hn];exact tE2 _ (tE2 _ (tE2 _ h)))
     ·by_cases e3:Y+1<y
      ·obtain⟨t,t1,t2,t3⟩:=some_in (Y+1) (by omega) (by omega);have k2:=tD (a:=Y+1+1) (b:=y) (by omega) (by omega);exact .inr (.inl ⟨by omega,t,by rw[hn];exact tE2 _ (tE2 _ (tE2 _ t1)),by omega,by omega⟩)
      ·obtain⟨t,t1,t2,t3⟩:=some_in (Y-1) (by omega) (by omega);have k2:=tD (a:=y+1) (b:=Y-1) (by omega) (by omega);have k3:Y-1+1=Y:=by omega
       rw[k3]at t3;exact .inr (.inr ⟨by omega,t,by rw[hn];exact tE2 _ (bF2 _ t1),by omega,by omega⟩)
theorem vB1 {z:Zn} (hz:yJ z) (Y:Int) (hY:1≤Y∧Y≤9999):(nrL z Y).Pairwise (fun a b=>a.1<b.1):=by
 have hsh:=hz.2.1.1
 have p1:z.2.1.Pairwise (fun a b=>a.1<b.1):=by
  rw[tH2];intro i j hi hj hij;have e:∀k (hk:k<z.2.1.length),z.2.1.getD k zSh=z.2.1[k]:=fun k hk=>by rw[oE2,sE2 hk];rfl
  have key:∀(j i:Nat),i<j→j<z.2.1.length→(z.2.1.getD i zSh).1<(z.2.1.getD j zSh).1:=by
   intro j
   induction j with
   | zero=>intro i h1;omega
   | succ j ih=>
    intro i h1 h2;have h3:=(hsh (j+1) h2).2.2 (by omega);rw[Nat.add_sub_cancel]at h3;by_cases c:i=j
    ·subst c;omega
    ·have:=ih i (by omega) (by omega);omega
  have:=key j i hij hj;rwa[e i hi,e j hj]at this
 have py:∀y,(yrL z y).Pairwise (fun a b=>a.1<b.1):=fun y=>by
  cases hl:yrL z y with
  | nil=>exact List.Pairwise.nil
  | cons s l=>
   have hm:s∈yrL z y:=by rw[hl];simp
   obtain⟨a,b,ha,hb,g1,g2,f1,f2,f3,hl2,q⟩:=pW hz hm;have n2:=zS a b ha hb g1 y ⟨by omega,by omega⟩;rw[←hl,rF1 hl2 f2 f3];simp;omega
 have hyy:∀y w,y<w → ∀s∈yrL z y,∀t∈yrL z w,s.1<t.1:=fun y w c s hs t ht=>by have h1:=bX hz hs;have h2:=bX hz ht;have h3:=tD (a:=y+1) (b:=w) (by omega) (by omega);omega
 have hsy:∀y,∀s∈z.2.1,∀t∈yrL z y,s.1<t.1:=fun y s hs t ht=>by
  obtain⟨a,b,ha,hb,g1,g2,f1,f2,f3,hl,q⟩:=pW hz ht;have h1:=bX hz ht;have h3:=tD (a:=z.2.2.2.1) (b:=y) f1 f2;rcases kO1 hz (.inl hs) (.inr ⟨y,f2,f3,ht⟩)with q2 | q2 | q2
  ·rcases q with q | q
   ·rw[q]at hs;cases hs
   ·obtain⟨i,hi,rfl⟩:=oG2 hs;have e:∀k (hk:k<z.2.1.length),z.2.1.getD k zSh=z.2.1[k]:=fun k hk=>by rw[oE2,sE2 hk];rfl
    by_cases c:i=z.2.1.length-1
    ·rw[←e i hi,c]at q2 ⊢;have:(z.2.1.getD (z.2.1.length-1) zSh).1=t.1:=by rw[q2]
     omega
    ·have:=tH2.1 p1 i (z.2.1.length-1) hi (by omega) (by omega);rw[←e (z.2.1.length-1) (by omega)]at this;have h4:(z.2.1[i]).1=t.1:=by rw[q2]
     omega
  ·omega
  ·rcases q with q | q
   ·rw[q]at hs;cases hs
   ·obtain⟨i,hi,rfl⟩:=oG2 hs;have e:∀k (hk:k<z.2.1.length),z.2.1.getD k zSh=z.2.1[k]:=fun k hk=>by rw[oE2,sE2 hk];rfl
    by_cases c:i=z.2.1.length-1
    ·rw[←e i hi,c]at q2 ⊢;omega
    ·have:=tH2.1 p1 i (z.2.1.length-1) hi (by omega) (by omega);rw[←e (z.2.1.length-1) (by omega)]at this;omega
 unfold nrL;split
 ·exact aG2.2 ⟨p1,py _,hsy _⟩
 ·refine aG2.2 ⟨p1,aG2.2 ⟨py _,aG2.2 ⟨py _,py _,hyy _ _ (by omega)⟩,fun s hs t ht=>?_⟩,fun s hs t ht=>?_⟩
  ·rcases xE2.1 ht with ht | ht
   ·exact hyy _ _ (by omega) s hs t ht
   ·exact hyy _ _ (by omega) s hs t ht
  ·rcases xE2.1 ht with ht | ht
   ·exact hsy _ s hs t ht
   ·rcases xE2.1 ht with ht | ht
    ·exact hsy _ s hs t ht
    ·exact hsy _ s hs t ht
theorem gR (u:Int):∀{l:List Sp},l.Pairwise (fun a b=>a.1<b.1) → ∀{s:Sp},l.find? (fun s=>decide (s.1>u))=some s → ∀t∈l,u<t.1→s.1≤t.1
 | [],_,_,h,_,_,_=>by cases h
 | x::l,hp,s,h,t,ht,hu=>by
  rw[xF2]at hp;rw[List.find?_cons]at h;by_cases c:x.1>u
  ·rw[dp c]at h;cases h;rcases pE2.1 ht with e | e
   ·rw[e];exact vF2 _
   ·have:=hp.1 t e;omega
  ·rw[dn c]at h;rcases pE2.1 ht with e | e
   ·subst e;omega
   ·exact gR u hp.2 h t e hu
theorem xY (u:Int):∀(l:List Sp),l.Pairwise (fun a b=>a.1<b.1) → ∀(b:Bool) (y:Sp),
  ((l.foldl (befL u) (b,y)).2∈l∧(l.foldl (befL u) (b,y)).1=true∧(l.foldl (befL u) (b,y)).2.1≤u ∧ ∀t∈l,t.1≤u→t.1≤(l.foldl (befL u) (b,y)).2.1)∨((l.foldl (befL u) (b,y))=(b,y) ∧ ∀t∈l,u<t.1)
 | [],_,b,y=>.inr ⟨rfl,fun t h=>by cases h⟩
 | x::l,hp,b,y=>by
  rw[xF2]at hp;rw[iH2];by_cases c:x.1≤u
  ·have e:befL u (b,y) x=(true,x):=by unfold befL;rw[if_pos c]
   rw[e];rcases xY u l hp.2 true x with⟨h1,h2,h3,h4⟩ | ⟨h1,h2⟩
   ·refine .inl ⟨mE2 _ h1,h2,h3,fun t ht hu=>?_⟩;rcases pE2.1 ht with e2 | e2
    ·subst e2;have:=hp.1 _ h1;omega
    ·exact h4 t e2 hu
   ·rw[h1];refine .inl ⟨by simp,rfl,c,fun t ht hu=>?_⟩;rcases pE2.1 ht with e2 | e2
    ·rw[e2];exact vF2 _
    ·have:=h2 t e2;omega
  ·have e:befL u (b,y) x=(b,y):=by unfold befL;rw[if_neg c]
   rw[e];have hall:∀t∈l,u<t.1:=fun t ht=>by have:=hp.1 t ht;omega
   rcases xY u l hp.2 b y with⟨h1,h2,h3,h4⟩ | ⟨h1,h2⟩
   ·have:=hall _ h1;omega
   ·refine .inr ⟨h1,fun t ht=>?_⟩;rcases pE2.1 ht with e2 | e2
    ·rw[e2];omega
    ·exact h2 t e2
section
variable {z : Zn} (hz : yJ z) {Y u m d : Int} (hY : iH (u / 86400) Y m d)
include hz hY
theorem jV1 :(1≤Y∧Y≤9999)∧fst_ Y*86400≤u∧u<fst_ (Y+1)*86400:=by have _:=hz;have h1:=eC.1 hY.1;have h2:=mF hY;omega
theorem aX1 :(∃s,aftV z Y u=some s∧Sh z s∧u<s.1 ∧ ∀t,Sh z t→u<t.1→s.1≤t.1)∨(aftV z Y u=none ∧ ∀t,Sh z t→t.1≤u):=by
 obtain⟨hy,hu⟩:=jV1 hz hY;have hs:=vB1 hz Y hy
 cases ha:aftV z Y u with
 | some s=>
  unfold aftV at ha;have h1:=List.mem_of_find?_eq_some ha;have h2:s.1>u:=by simpa using List.find?_some ha
  refine .inl ⟨s,rfl,fB2 hz h1,h2,fun t ht hut=>?_⟩;rcases qZ hz hy hu ht with q | ⟨_,t',q1,q2,q3⟩ | ⟨q,_⟩
  ·exact gR u hs ha t q hut
  ·have:=gR u hs ha t' q1 q2;omega
  ·omega
 | none=>
  unfold aftV at ha;rw[List.find?_eq_none]at ha;refine .inr ⟨rfl,fun t ht=>?_⟩;rcases qZ hz hy hu ht with q | ⟨_,t',q1,q2,q3⟩ | ⟨q,_⟩
  ·have:=ha t q;simp at this;exact this
  ·have:=ha t' q1;simp at this;omega
  ·exact q
theorem yE1 :(∃s,Sh z s∧s.1≤u∧(∀t,Sh z t→t.1≤u→t.1≤s.1)∧offV z Y u=s.2.1)∨((∀t,Sh z t→u<t.1)∧offV z Y u=z.1):=by
 obtain⟨hy,hu⟩:=jV1 hz hY;have hs:=vB1 hz Y hy;rcases xY u (nrL z Y) hs false zSh with⟨h1,h2,h3,h4⟩ | ⟨h1,h2⟩
 ·refine .inl ⟨_,fB2 hz h1,h3,fun t ht hut=>?_,by unfold offV;rw[if_pos h2]⟩;rcases qZ hz hy hu ht with q | ⟨q,_⟩ | ⟨_,t',q1,q2,q3⟩
  ·exact h4 t q hut
  ·omega
  ·have:=h4 t' q1 q2;omega
 ·refine .inr ⟨fun t ht=>?_,by unfold offV;rw[h1,if_neg (by simp)]⟩;rcases qZ hz hy hu ht with q | ⟨q,_⟩ | ⟨_,t',q1,q2,q3⟩
  ·exact h2 t q
  ·exact q
  ·have:=h2 t' q1;omega
end
theorem tV (y m d:Int):xH.f y m d=some (pJ y m d,()):=by
 rw[xH.f_eq];unfold pJ;by_cases h1:1≤y
 ·have hV:=mH y m (by omega);by_cases h2:y≤9999
  ·by_cases h3:1≤d
   ·simp(disch:=omega)only[ss,hV,ge_iff_le]
   ·simp(disch:=omega)only[ss,hV,ge_iff_le]
  ·simp(disch:=omega)only[ss,ge_iff_le]
 ·simp(disch:=omega)only[ss,ge_iff_le]
theorem yS1 (y m:Int) (hy:0≤y) (hm:m≤12):∀(k:Nat) (i n:Int),m-i=k→1≤i → -10000000≤n→n+cum y m-cum y i≤10000000 → -10000000≤n∧n≤10000000→xD.l1 y m n i=some (n+cum y m-cum y i,0,()):=by
 intro k
 induction k with
 | zero=>
  intro i n hk hi h1 h2 h3;have e:i=m:=by omega
  subst e;rw[xD.l1_eq];simp(disch:=omega)only[ss]
  congr 2
  omega
 | succ k ih=>
  intro i n hk hi h1 h2 h3;have hL:=mH y i hy;have hb:=qH y i;have hc:=oE y i hi (by omega);have hd:=eJ y m;have he:=eJ y i;have hg:=eJ y (i+1);rw[xD.l1_eq];by_cases hn2:n+mlen y i≤10000000
  ·simp(disch:=omega)only[ss,hL];rw[ih (i+1) (n+mlen y i) (by omega) (by omega) (by omega) (by omega) ⟨by omega,hn2⟩]
   congr 2
   omega
  ·-- the bound holds where it is used
   simp(disch:=omega)only[ss,hL];have hm':cum y (i+1)≤cum y m:=by
    have mono:∀(j:Nat) (a:Int),1≤a→a+j≤12→cum y a≤cum y (a+j):=by
     intro j
     induction j with
     | zero=>intro a _ _;simp
     | succ j ihj=>
      intro a ha hj;have:=ihj a ha (by omega);have h5:=oE y (a+j) (by omega) (by omega);have h6:=qH y (a+j);rw[show a+((j+1:Nat):Int)=a+(j:Int)+1 by omega,h5];omega
    have:=mono k (i+1) (by omega) (by omega);rwa[show i+1+(k:Int)=m by omega]at this
   omega
theorem wQ (y m d:Int) (hv:pJ y m d=true):xD.f y m d=some (fst_ y+d-1+cum y m,0,()):=by
 rw[xD.f_eq,tV,hv];obtain⟨h3,h4,h5,h6⟩:=eC.1 hv;have hb:=qH y m;have hm:=hb.2.2 (by omega);have hF:=pL y (by omega) (by omega);have hfb:=vH y (by omega) (by omega);have hcb:=eJ y m;have hc1:cum y 1=0:=rfl;obtain⟨k,hk⟩:=aI2 (show 0≤m-1 by omega);have hD:=yS1 y m (by omega) hm.2 k 1 (fst_ y+d-1) hk (by omega) (by omega) (by omega) ⟨by omega,by omega⟩;simp(disch:=omega)only[ss,hF,hD]
 congr 2
 omega
theorem iO (y mo d h mi s:Int) (hv:pJ y mo d=true) (h1:0≤h∧h≤23) (h2:0≤mi∧mi≤59) (h3:0≤s∧s≤59):dD.f y mo d h mi s=some ((fst_ y+d-1+cum y mo)*86400+h*3600+mi*60+s,0,()):=by obtain⟨v1,v2,v3,v4⟩:=eC.1 hv;have hfb:=vH y (by omega) (by omega);have hcb:=eJ y mo;have hb:=qH y mo;rw[dD.f_eq,wQ y mo d hv];simp(disch:=omega)only[ss,dD.l1_eq]
theorem nW1 (y m k w:Int) (hy:1≤y∧y≤9999) (hm:1≤m∧m≤12) (hk:1≤k∧k≤5) (hw:0≤w∧w≤6):∀(q:Nat) (d cnt last:Int),mlen y m+1-d=q→1≤d→cnt=(if d≤nth1 y m w then 0 else(d-1-nth1 y m w)/7+1)→last=(if cnt=0 then 0 else nth1 y m w+7*(cnt-1))→(k<5→cnt<k) →
  yB.l2 y m k w cnt last d=some (dN y m k w,0,()):=by
 have hn:=fV y m w;have hl:=oD1 y m hm.1 hm.2;have hL:=mH y m (by omega);have hfb:=vH y (by omega) (by omega);have hcb:=eJ y m;intro q
 induction q with
 | zero=>
  intro d cnt last hq hd hc hla hlt;have e:d=mlen y m+1:=by omega
  rw[yB.l2_eq,hL];simp only[hE2];rw[dn (show ¬d≤mlen y m by omega),cond_false];rw[if_neg (by omega)]at hc;rw[if_neg (by omega)]at hla;by_cases c5:k=5
  ·have:last=dN y m k w:=by unfold dN nthL;rw[if_pos c5];split <;> omega
   rw[this]
  ·have:=hlt (by omega);omega
 | succ q ih=>
  intro d cnt last hq hd hc hla hlt;have hle:d≤mlen y m:=by omega
  have hcnt:0≤cnt∧cnt≤5:=by rw[hc];split <;> omega
  have hv:pJ y m d=true:=eC.2 ⟨hy.1,hy.2,hd,hle⟩;have hwk:wk (fst_ y+d-1+cum y m)=w↔(d-nth1 y m w)%7=0∧0≤w∧w≤6:=by unfold wk nth1;omega
  rw[yB.l2_eq,hL];simp only[hE2];rw[dp hle,cond_true,wQ y m d hv];simp only[hE2];rw[cF];simp only[hE2];by_cases cw:wk (fst_ y+d-1+cum y m)=w
  ·have h7:=hwk.1 cw;have hge:nth1 y m w≤d:=by omega
   have hd7:d=nth1 y m w+7*cnt:=by rw[hc];split <;> omega
   have hc':cnt+1=(if d+1≤nth1 y m w then 0 else(d+1-1-nth1 y m w)/7+1):=by rw[if_neg (by omega)];omega
   have hl':d=(if cnt+1=0 then 0 else nth1 y m w+7*(cnt+1-1)):=by rw[if_neg (by omega)];omega
   have go:(k<5→cnt+1<k)→yB.l3 y m k w (cnt+1) d d false=some (dN y m k w,0,()):=fun hh=>by rw[yB.l3_eq,cond_false,wr (by omega) (by omega)];exact ih (d+1) (cnt+1) d (by omega) (by omega) hc' hl' hh
   rw[dp cw,lE2,cond_false,wr (by omega) (by omega)];by_cases ck:cnt+1=k
   ·rw[dp ck,cond_true];by_cases c5:k<5
    ·rw[dp c5,yB.l3_eq,cond_true];have:d=dN y m k w:=by unfold dN;rw[if_neg (by omega)];omega
     rw[this]
    ·rw[dn c5];exact go fun q=>absurd q c5
   ·rw[dn ck,cond_false];exact go fun q=>by have:=hlt q;omega
  ·have h7:¬((d-nth1 y m w)%7=0∧0≤w∧w≤6):=fun q=>cw (hwk.2 q)
   rw[dn cw,eF2,cond_true,wr (by omega) (by omega)];have hw:=hw;refine ih (d+1) cnt last (by omega) (by omega) ?_ hla hlt;rw[hc];have h8:¬(d-nth1 y m w)%7=0:=fun q=>h7 ⟨q,hw⟩
   by_cases c1:d≤nth1 y m w
   ·rw[if_pos c1,if_pos (by omega)]
   ·rw[if_neg c1,if_neg (by omega)];omega
theorem oS1 (y m k w:Int) (hy:1≤y∧y≤9999) (hm:1≤m∧m≤12) (hk:1≤k∧k≤5) (hw:0≤w∧w≤6):yB.f y m k w=some (dN y m k w,0,()):=by have hn:=fV y m w;have hl:=oD1 y m hm.1 hm.2;have h2:=nW1 y m k w hy hm hk hw (mlen y m).toNat 1 0 0 (by omega) (vF2 _) (by rw[if_pos (by omega)]) (by rw[if_pos rfl]) (fun _=>by omega);have hv:pJ y m 1=true:=eC.2 ⟨hy.1,hy.2,vF2 _,by omega⟩;rw[yB.f_eq,tV,hv];simp only[hE2,lE2,cond_false];rw[dn (show ¬k<1 by omega),cond_false,dn (show ¬k>5 by omega),cond_false,dn (show ¬w<0 by omega),cond_false,dn (show ¬w>6 by omega),yB.l1_eq,cond_false];exact h2
theorem fU (x:Yl) (hx:okY x) (y:Int) (hy:1≤y∧y≤9999):mI.f x y=some (yAt x y,()):=by obtain⟨x1,x2,x3,x4,x5,x6,x7,x8,x9⟩:=hx;have hd:=pM y x.1 x.2.1 x.2.2.1 ⟨x1,x2⟩ ⟨x3,x4⟩;have hv:pJ y x.1 (dN y x.1 x.2.1 x.2.2.1)=true:=eC.2 ⟨hy.1,hy.2,hd.1,hd.2⟩;have hfb:=vH y (by omega) (by omega);have hcb:=eJ y x.1;have hb:=qH y x.1;rw[mI.f_eq,oS1 y x.1 x.2.1 x.2.2.1 hy ⟨x1,x2⟩ ⟨x3,x4⟩ ⟨x5,x6⟩];simp only[hE2];rw[wQ _ _ _ hv];simp only[hE2];have w1_:w6 ((fst_ y+dN y x.1 x.2.1 x.2.2.1-1+cum y x.1)*86400)=(fst_ y+dN y x.1 x.2.1 x.2.2.1-1+cum y x.1)*86400:=wr (by omega) (by omega);unfold yAt;rw[w1_,wr (by omega) (by omega)]
theorem cU (x:Yl):oC (wH.f x) (okY x):=by
 unfold okY offP;rw[wH.f_eq]
 have st:∀{p q:Prop} [Decidable p] {X:Option (Bool×Unit)},oC X q→oC (bif decide p then X else some (false,())) (p∧q):=fun {p q} _ {X} h=>by
  by_cases c:p
  ·rw[dp c,cond_true];exact h.iff ⟨fun z=>⟨c,z⟩,fun z=>z.2⟩
  ·rw[dn c,cond_false];exact⟨false,rfl,(fun z=>by cases z),fun z=>absurd z.1 c⟩
 refine oC.iff (st (st (st (st (st (st (st (st (st ⟨_,rfl,decide_eq_true_iff⟩))))))))) ?_;constructor <;> intro h <;> omega
theorem pA2 (base fE:Int) (sh:List Sp) (ys:List Yl) (hl:sh.length≤1000000) (T:Prop) (hT:oC (gA.l2 (sh.length:Int) (base,sh,ys,fE,())) T):∀(k i:Nat),sh.length-i=k→i≤sh.length→(∀j,j<i→inT (sh.getD j zSh).1) →
  oC (gA.l2 (i:Int) (base,sh,ys,fE,())) ((∀j,i≤j→j<sh.length→okS sh j)∧T):=by
 intro k
 induction k with
 | zero=>
  intro i hk hi _;have e:i=sh.length:=by omega
  subst e;exact hT.iff ⟨fun q=>⟨fun j h1 h2=>by omega,q⟩,fun q=>q.2⟩
 | succ k ih=>
  intro i hk hi hpre;have hlt:i<sh.length:=by omega
  have l3t:gA.l3 (i:Int) true (base,sh,ys,fE,())=some (false,()):=by rw[gA.l3_eq,cond_true]
  have stop:¬okS sh i→oC (gA.l3 (i:Int) true (base,sh,ys,fE,())) ((∀j,i≤j→j<sh.length→okS sh j)∧T):=fun h=>⟨false,l3t,(fun z=>by cases z),fun z=>absurd (z.1 i (rE2 _) hlt) h⟩
  have step:okS sh i→oC (gA.l3 (i:Int) false (base,sh,ys,fE,())) ((∀j,i≤j→j<sh.length→okS sh j)∧T):=fun h=>by
   have ih1:=ih (i+1) (by omega) (by omega) fun j hj=>by
    by_cases e:j=i
    ·subst e;exact h.1
    ·exact hpre j (by omega)
   rw[gF2,hF2]at ih1;rw[gA.l3_eq,cond_false,wr (by omega) (by omega)];refine ih1.iff ⟨fun q=>⟨fun j h1 h2=>?_,q.2⟩,fun q=>⟨fun j h1 h2=>q.1 j (by omega) h2,q.2⟩⟩;by_cases e:j=i
   ·subst e;exact h
   ·exact q.1 j (by omega) h2
  have hg:sh.getD i ((0,0,()):Int×Int×Unit)=sh.getD i zSh:=rfl;rw[gA.l2_eq];dsimp only;rw[dp (show(i:Int)<(sh.length:Int) by omega),cond_true,dp (show 0≤(i:Int) by omega),cond_true,cond_true,nF2,hg,(oH _).2];simp only[hE2];by_cases c1:inT (sh.getD i zSh).1
  ·rw[dp (show -62135596800≤(sh.getD i zSh).1∧(sh.getD i zSh).1≤253402300799 from c1),lE2,cond_false];by_cases c2:(sh.getD i zSh).2.1 < -64800
   ·rw[dp c2,cond_true];exact stop fun q=>by have:=q.2.1;unfold offP at this;omega
   ·by_cases c3:(sh.getD i zSh).2.1>64800
    ·rw[dn c2,cond_false,dp c3,cond_true];exact stop fun q=>by have:=q.2.1;unfold offP at this;omega
    ·rw[dn c2,cond_false,dn c3,cond_false];have hof:offP (sh.getD i zSh).2.1:=by unfold offP;omega
     by_cases c4:i=0
     ·rw[dn (show ¬(i:Int)>0 by omega),cond_false];exact step ⟨c1,hof,fun q=>by omega⟩
     ·have hp:=hpre (i-1) (by omega);have w1_:w6 ((i:Int)-1)=((i-1:Nat):Int):=by rw[wr (by omega) (by omega)];omega
      have hg1:sh.getD (i-1) ((0,0,()):Int×Int×Unit)=sh.getD (i-1) zSh:=rfl;unfold inT at hp c1;rw[dp (show(i:Int)>0 by omega),cond_true,w1_,dp (show 0≤((i-1:Nat):Int) by omega),cond_true,dp (show((i-1:Nat):Int)<(sh.length:Int) by omega),cond_true,nF2,hg1,wr (by omega) (by omega)];by_cases c5:(sh.getD i zSh).1-(sh.getD (i-1) zSh).1<200000
      ·rw[dp c5];exact stop fun q=>by have:=q.2.2 (by omega);omega
      ·rw[dn c5];exact step ⟨c1,hof,fun _=>by omega⟩
  ·rw[dn (show ¬(-62135596800≤(sh.getD i zSh).1∧(sh.getD i zSh).1≤253402300799)from c1),eF2,cond_true];exact stop fun q=>c1 q.1
theorem uX (z:Zn) (h1:z.2.1.length≤1000000):oC (gA.f z) (yJ z):=by
 obtain⟨base,sh,ys,fE,⟨⟩⟩:=z;dsimp only at h1;have no:∀{X:Option (Bool×Unit)} {p:Prop},X=some (false,()) → ¬p→oC X p:=fun hX hp=>⟨false,hX,(fun h=>by cases h),fun h=>absurd h hp⟩
 have l1t:gA.l1 true (base,sh,ys,fE,())=some (false,()):=by rw[gA.l1_eq,cond_true]
 have l4t:gA.l4 true (base,sh,ys,fE,())=some (false,()):=by rw[gA.l4_eq,cond_true]
 unfold yJ;dsimp only;rw[gA.f_eq];dsimp only;by_cases c1:base < -64800
 ·rw[dp c1,cond_true];exact no l1t fun q=>by have:=q.1;unfold offP at this;omega
 by_cases c2:base>64800
 ·rw[dn c1,cond_false,dp c2,cond_true];exact no l1t fun q=>by have:=q.1;unfold offP at this;omega
 have hbase:offP base:=by unfold offP;omega
 rw[dn c1,cond_false,dn c2,cond_false];by_cases c3:(sh.length:Int)>64
 ·rw[dp c3];exact no l1t fun q=>by have:=q.2.1.2;omega
 rw[dn c3,gA.l1_eq,cond_false]
 have tail:(∀j,j<sh.length→inT (sh.getD j zSh).1)→oC (gA.l2 (sh.length:Int) (base,sh,ys,fE,())) ((ys=[]∧fE=0)∨(ys.length=2∧eQ ys∧1≤fE∧fE≤9999∧(sh=[]∨(sh.getD (sh.length-1) zSh).1+200000≤fst_ fE*86400))):=fun hin=>by
  rw[gA.l2_eq];dsimp only;rw[dn (show ¬(sh.length:Int)<(sh.length:Int) by omega),cond_false];by_cases c0:(ys.length:Int)=0
  ·have e:ys=[]:=aF2 (by omega);rw[dp c0,cond_true];refine⟨_,rfl,?_⟩;rw[decide_eq_true_eq];exact⟨fun h=>.inl ⟨e,h⟩,fun h=>h.elim (fun q=>q.2) fun q=>by have:=q.1;omega⟩
  ·have hne:ys≠[]:=fun e=>c0 (by rw[e];rfl)
   rw[dn c0,cond_false];by_cases cl:(ys.length:Int)=2
   ·have h2:ys.length=2:=by omega
    have hno:∀{X:Option (Bool×Unit)},X=some (false,()) → ¬(eQ ys∧1≤fE∧fE≤9999∧(sh=[]∨(sh.getD (sh.length-1) zSh).1+200000≤fst_ fE*86400))→oC X ((ys=[]∧fE=0)∨(ys.length=2∧eQ ys∧1≤fE∧fE≤9999∧(sh=[]∨(sh.getD (sh.length-1) zSh).1+200000≤fst_ fE*86400))):=
     fun hX hp=>no hX fun q=>q.elim (fun q=>hne q.1) fun q=>hp q.2
    have g0:ys.getD 0 ((0,0,0,0,0,()):Int×Int×Int×Int×Int×Unit)=ys.getD 0 zYl:=rfl;have g1:ys.getD 1 ((0,0,0,0,0,()):Int×Int×Int×Int×Int×Unit)=ys.getD 1 zYl:=rfl;obtain⟨r0,a0,b0⟩:=cU (ys.getD 0 zYl);obtain⟨r1,a1,b1⟩:=cU (ys.getD 1 zYl);rw[dp cl,lE2,cond_false,dp (show(0:Int)≤0 from vF2 _),cond_true,dp (show(0:Int)<(ys.length:Int) by omega),cond_true,g0,a0];simp only[hE2]
    cases r0 with
    | false=>exact hno l4t fun q=>by have:=b0.2 (q.1.1 0 (by omega));cases this
    | true=>
    rw[lE2,cond_false,dp (show(0:Int)≤1 by decide),cond_true,dp (show(1:Int)<(ys.length:Int) by omega),cond_true,g1,a1];simp only[hE2]
    cases r1 with
    | false=>exact hno l4t fun q=>by have:=b1.2 (q.1.1 1 (by omega));cases this
    | true=>
    have y0:=b0.1 rfl;have y1:=b1.1 rfl;rw[lE2,cond_false];by_cases f1:fE<1
    ·rw[dp f1,cond_true];exact hno l4t fun q=>by omega
    by_cases f2:fE>9999
    ·rw[dn f1,cond_false,dp f2];exact hno l4t fun q=>by omega
    rw[dn f1,cond_false,dn f2,gA.l4_eq,cond_false];dsimp only;have m0:=y0.1;have m0':=y0.2.1;have m1:=y1.1;have m1':=y1.2.1;rw[dp (show(0:Int)≤1 by decide),cond_true,dp (show(1:Int)<(ys.length:Int) by omega),cond_true,dp (show(0:Int)≤0 from vF2 _),cond_true,dp (show(0:Int)<(ys.length:Int) by omega),cond_true,g0,g1,wr (by omega) (by omega)];have hY:((2≤(ys.getD 1 zYl).1-(ys.getD 0 zYl).1)∧(ys.getD 1 zYl).1-(ys.getD 0 zYl).1≤10)↔eQ ys:=by
     unfold eQ;refine⟨fun q=>⟨fun j hj=>?_,q.1,q.2⟩,fun q=>⟨q.2.1,q.2.2⟩⟩;have:j=0∨j=1:=by omega
     rcases this with rfl | rfl
     ·exact y0
     ·exact y1
    by_cases d1:(ys.getD 1 zYl).1-(ys.getD 0 zYl).1≥2
    ·by_cases d2:(ys.getD 1 zYl).1-(ys.getD 0 zYl).1≤10
     ·have hyp:=hY.1 ⟨d1,d2⟩;rw[dp d1,cond_true,dp d2,cond_true];by_cases cs:(sh.length:Int)=0
      ·have e:sh=[]:=aF2 (by omega);rw[dp cs,cond_true];exact⟨true,rfl,fun _=>.inr ⟨h2,hyp,by omega,by omega,.inl e⟩,fun _=>rfl⟩
      ·have hi1:=hin (sh.length-1) (by omega);have hw:w6 ((sh.length:Int)-1)=((sh.length-1:Nat):Int):=by rw[wr (by omega) (by omega)];omega
       have hfb:=vH fE (by omega) (by omega);have hgl:sh.getD (sh.length-1) ((0,0,()):Int×Int×Unit)=sh.getD (sh.length-1) zSh:=rfl;unfold inT at hi1;rw[dn cs,cond_false,pL fE (by omega) (by omega)];simp only[hE2];rw[hw,dp (show 0≤((sh.length-1:Nat):Int) by omega),cond_true,dp (show((sh.length-1:Nat):Int)<(sh.length:Int) by omega),cond_true,nF2,hgl,wr (show -9223372036854775808≤fst_ fE*86400 by omega) (by omega),wr (by omega) (by omega)];refine⟨_,rfl,?_⟩;rw[decide_eq_true_eq];constructor
       ·exact fun h=>.inr ⟨h2,hyp,by omega,by omega,.inr (by omega)⟩
       ·exact fun h=>h.elim (fun q=>absurd q.1 hne) fun q=>q.2.2.2.2.elim (fun e=>absurd (by rw[e];rfl) cs) fun q=>by omega
     ·rw[dp d1,cond_true,dn d2,cond_false];exact hno rfl fun q=>d2 (hY.2 q.1).2
    ·rw[dn d1,cond_false];exact hno rfl fun q=>d1 (hY.2 q.1).1
   ·rw[dn cl,eF2,cond_true];exact no l4t fun q=>q.elim (fun q=>hne q.1) fun q=>cl (by have:=q.1;omega)
 by_cases cin:∀j,j<sh.length→inT (sh.getD j zSh).1
 ·have h0:=pA2 base fE sh ys h1 _ (tail cin) _ 0 rfl (kE2 _) fun j hj=>by omega
  rw[qE2]at h0;refine h0.iff ⟨fun q=>⟨hbase,⟨fun j hj=>q.1 j (kE2 _) hj,by omega⟩,q.2⟩,fun q=>⟨fun j _ hj=>q.2.1.1 j hj,q.2.2⟩⟩
 ·-- a shift that is out of the years: it is met
  have key:∀(k i:Nat),sh.length-i=k→i≤sh.length→(∀j,j<i→inT (sh.getD j zSh).1)→gA.l2 (i:Int) (base,sh,ys,fE,())=some (false,()):=by
   intro k
   induction k with
   | zero=>
    intro i hk hi hpre;exact absurd (fun j hj=>hpre j (by omega)) cin
   | succ k ih=>
    intro i hk hi hpre;have hlt:i<sh.length:=by omega
    have l3t:gA.l3 (i:Int) true (base,sh,ys,fE,())=some (false,()):=by rw[gA.l3_eq,cond_true]
    have hg:sh.getD i ((0,0,()):Int×Int×Unit)=sh.getD i zSh:=rfl;rw[gA.l2_eq];dsimp only;rw[dp (show(i:Int)<(sh.length:Int) by omega),cond_true,dp (show 0≤(i:Int) by omega),cond_true,cond_true,nF2,hg,(oH _).2];simp only[hE2];by_cases c1:inT (sh.getD i zSh).1
    ·have ih1:=ih (i+1) (by omega) (by omega) fun j hj=>by
      by_cases e:j=i
      ·subst e;exact c1
      ·exact hpre j (by omega)
     rw[gF2,hF2]at ih1;have l3f:gA.l3 (i:Int) false (base,sh,ys,fE,())=some (false,()):=by rw[gA.l3_eq,cond_false,wr (by omega) (by omega)];exact ih1
     have l3a:∀b,gA.l3 (i:Int) b (base,sh,ys,fE,())=some (false,()):=fun b=>by cases b with | true=>exact l3t | false=>exact l3f
     rw[dp (show -62135596800≤(sh.getD i zSh).1∧(sh.getD i zSh).1≤253402300799 from c1),lE2,cond_false,l3t,l3f,l3a];by_cases c4:i=0
     ·rw[dn (show ¬(i:Int)>0 by omega),cond_false];cases decide ((sh.getD i zSh).2.1 < -64800) <;> cases decide ((sh.getD i zSh).2.1>64800) <;> rfl
     ·have w1_:w6 ((i:Int)-1)=((i-1:Nat):Int):=by rw[wr (by omega) (by omega)];omega
      rw[dp (show(i:Int)>0 by omega),cond_true,w1_,dp (show 0≤((i-1:Nat):Int) by omega),cond_true,dp (show((i-1:Nat):Int)<(sh.length:Int) by omega),cond_true];cases decide ((sh.getD i zSh).2.1 < -64800) <;> cases decide ((sh.getD i zSh).2.1>64800) <;> rfl
    ·rw[dn (show ¬(-62135596800≤(sh.getD i zSh).1∧(sh.getD i zSh).1≤253402300799)from c1),eF2,cond_true];exact l3t
  have h0:=key sh.length 0 (by omega) (kE2 _) fun j hj=>by omega
  rw[qE2]at h0;exact no h0 fun q=>cin fun j hj=>(q.2.1.1 j hj).1
theorem mT1 (z:Zn) (hz:yJ z) (hne:z.2.2.1≠[]) (Y k:Int) (hk:z.2.2.2.1≤k∧k≤9999) (acc:List Sp) (hacc:acc.length≤1000):zB.l2 Y k 0 z acc=zB.l1 Y (k+1) z (acc++yrL z k):=by
 have hlim:eD=17179869184:=rfl;rcases hz.2.2 with⟨q,_⟩ | ⟨q2,q3,q4,q5,_⟩
 ·exact absurd q hne
 obtain⟨a,b,hab⟩:∃a b,z.2.2.1=[a,b]:=by
  match hq:z.2.2.1,q2 with
  | [a,b],_=>exact⟨a,b,rfl⟩
 have oa:okY a:=by have:=q3.1 0 (by omega);rw[hab]at this;exact this
 have ob:okY b:=by have:=q3.1 1 (by omega);rw[hab]at this;exact this
 have l2:(z.2.2.1.length:Int)=2:=by rw[hab];rfl
 have g0:z.2.2.1.getD 0 ((0,0,0,0,0,()):Int×Int×Int×Int×Int×Unit)=a:=by rw[hab];rfl
 have g1:z.2.2.1.getD 1 ((0,0,0,0,0,()):Int×Int×Int×Int×Int×Unit)=b:=by rw[hab];rfl
 have va:=fU a oa k ⟨by omega,hk.2⟩;have vb:=fU b ob k ⟨by omega,hk.2⟩;rw[rF1 hab hk.1 hk.2,zB.l2_eq,show((0:Int)).toNat=0 from rfl,g0,va];simp(disch:=omega)only[ss,l2,vE2,hlim];rw[show(0:Int)+1=1 from rfl,zB.l2_eq,show((1:Int)).toNat=1 from rfl,g1,vb];simp(disch:=omega)only[ss,l2,vE2,jE2,hlim];rw[show(1:Int)+1=2 from rfl,zB.l2_eq];simp(disch:=omega)only[ss];rw[uE2];rfl
theorem tL1 (z:Zn) (hz:yJ z) (u:Int) (hu:inT u):∃Y m d,iH (u/86400) Y m d ∧ ∃X,zB.f z u=some (nrL z Y++X,())∧(∀s∈X,u<s.1)∧X.length≤2:=by
 have hlim:eD=17179869184:=rfl;have hd:=uJ hu;obtain⟨Y,m,d,h1,_,h2⟩:=kJ (u/86400) hd.1 hd.2;obtain⟨v1,v2,v3,v4⟩:=eC.1 h1.1;have hb:=mF h1;have hD:=(qF u (by unfold inT at hu;omega) (by unfold inT at hu;omega)).2;have hl:=hz.2.1.2;refine⟨Y,m,d,h1,?_⟩;rw[zB.f_eq,dp (show([]:List Sp).length+z.2.1.length≤eD by rw[hlim,lG2];omega),cond_true,dF2];by_cases hne:z.2.2.1=[]
 ·have hy:∀k,yrL z k=[]:=fun k=>by unfold yrL;rw[if_pos (.inl hne)]
  refine⟨[],?_,(fun s hs=>by cases hs),kE2 _⟩;rw[dp (show(z.2.2.1.length:Int)=0 by rw[hne];rfl),cond_true];unfold nrL;rw[hy,hy,hy,hy];simp
 ·have hpos:=pH2.2 hne;rcases hz.2.2 with⟨q,_⟩ | ⟨q2,q3,q4,q5,q6⟩
  ·exact absurd q hne
  rw[dn (show ¬(z.2.2.1.length:Int)=0 by omega),cond_false,hD];simp only[hE2];rw[h2];simp only[hE2];rw[tY,wr (by omega) (by omega)]
  have stepY:∀(k:Int) (acc:List Sp),z.2.2.2.1≤k→k≤min (max z.2.2.2.1 Y+1) 9999→acc.length≤1000→zB.l1 Y k z acc=zB.l1 Y (k+1) z (acc++yrL z k):=fun k acc g1 g2 g3=>by rw[zB.l1_eq,tY,wr (by omega) (by omega),zB1,dp g2,cond_true];exact mT1 z hz hne Y k ⟨g1,by omega⟩ acc g3
  have stopY:∀(k:Int) (acc:List Sp),¬k≤min (max z.2.2.2.1 Y+1) 9999→zB.l1 Y k z acc=some (acc,()):=fun k acc g2=>by rw[zB.l1_eq,tY,wr (by omega) (by omega),zB1,dn g2,cond_false]
  have big:∀k,k>9999→yrL z k=[]:=fun k g=>by unfold yrL;rw[if_pos (.inr (.inr g))]
  have low:∀k,k<z.2.2.2.1→yrL z k=[]:=fun k g=>by unfold yrL;rw[if_pos (.inr (.inl g))]
  have yl:=mM z hz;by_cases c:Y<z.2.2.2.1
  ·refine⟨yrL z (z.2.2.2.1+1),?_,fun s hs=>?_,yl _⟩
   ·rw[show max z.2.2.2.1 (Y-1)=z.2.2.2.1 by omega,stepY _ _ (vF2 _) (by omega) (by omega)];unfold nrL;rw[if_pos c];have y1:=yl z.2.2.2.1;by_cases c9:z.2.2.2.1+1≤9999
    ·rw[stepY _ _ (by omega) (by omega) (by rw[jE2];omega),stopY _ _ (by omega)]
    ·rw[stopY _ _ (by omega),big (z.2.2.2.1+1) (by omega),zE2]
   ·have:=bX hz hs;have h3:=yZ v1 (b:=z.2.2.2.1+1) (by omega);have h4:=tD (a:=Y+1) (b:=z.2.2.2.1+1) (by omega) (by omega);omega
  ·refine⟨[],?_,(fun s hs=>by cases hs),kE2 _⟩;unfold nrL;rw[if_neg c,zE2];have y0:=yl (Y-1);have y1:=yl Y;have y2:=yl (Y+1)
   have rest:∀acc:List Sp,acc.length≤900→zB.l1 Y Y z acc=some (acc++(yrL z Y++yrL z (Y+1)),()):=fun acc ha=>by
    rw[stepY _ _ (by omega) (by omega) (by omega)];by_cases c9:Y+1≤9999
    ·rw[stepY _ _ (by omega) (by omega) (by rw[jE2];omega),stopY _ _ (by omega),uE2]
    ·rw[stopY _ _ (by omega),big (Y+1) (by omega),zE2]
   by_cases cf:z.2.2.2.1≤Y-1
   ·rw[show max z.2.2.2.1 (Y-1)=Y-1 by omega,stepY _ _ cf (by omega) (by omega),show Y-1+1=Y by omega,rest _ (by rw[jE2];omega),uE2]
   ·rw[show max z.2.2.2.1 (Y-1)=Y by omega,rest _ (by omega),low (Y-1) (by omega),dF2]
theorem fY1 (u:Int) (l:List Sp) (hl:l.length≤1000000):∀k:Nat,k≤l.length→mC.l2 u l ((k:Int)-1) zSh=some (((l.take k).foldl (befL u) (false,zSh)).2,((l.take k).foldl (befL u) (false,zSh)).1,()):=by
 intro k
 induction k with
 | zero=>
  intro _;rw[mC.l2_eq,dn (show ¬(((0:Nat):Int)-1)≥0 by omega),cond_false,List.take_zero];rfl
 | succ k ih=>
  intro hk;have hlt:k<l.length:=by omega
  have hg:l.getD k ((0,0,()):Int×Int×Unit)=l.getD k zSh:=rfl;have e1:(((k+1:Nat):Int)-1)=(k:Int):=by omega
  have e2:(l.take (k+1)).foldl (befL u) (false,zSh)=befL u ((l.take k).foldl (befL u) (false,zSh)) (l.getD k zSh):=by rw[List.take_add_one,List.foldl_append,sE2 hlt,oE2,sE2 hlt];rfl
  rw[e1,e2,mC.l2_eq,nF2,hg,dp (show(k:Int)≥0 by omega),cond_true,cond_true,dp (show(k:Int)<(l.length:Int) by omega),cond_true];unfold befL at ih ⊢;by_cases c:(l.getD k zSh).1≤u
  ·rw[dp c,if_pos c,cond_true,cond_true,cond_true]
  ·rw[dn c,if_neg c,cond_false,wr (by omega) (by omega)];exact ih (by omega)
theorem zC1 (u:Int):∀(X:List Sp) (p:Bool×Sp),(∀s∈X,u<s.1)→X.foldl (befL u) p=p
 | [],_,_=>rfl
 | s::X,p,h=>by have:=h s (by simp);rw[iH2,show befL u p s=p from if_neg (by omega)];exact zC1 u X p fun t ht=>h t (mE2 _ ht)
theorem bB1 (z:Zn) (hz:yJ z) (u:Int) (hu:inT u):∃Y m d,iH (u/86400) Y m d∧nF.f z u=some (offV z Y u,())∧gA.f z=some (true,()):=by
 have hl:=hz.2.1.2;obtain⟨b,hb,hb2⟩:=uX z (by omega);rw[hb2.2 hz]at hb;obtain⟨Y,m,d,h1,X,h2,h3,h4⟩:=tL1 z hz u hu;refine⟨Y,m,d,h1,?_,hb⟩;have hM:vD.f u=some (true,()):=by rw[(oH u).2,dp (show -62135596800≤u∧u≤253402300799 from hu)]
 have hnl:=xM1 z hz Y;have hlen:(nrL z Y++X).length≤1000:=by rw[jE2];omega
 have hbf:=fY1 u (nrL z Y++X) (by omega) (nrL z Y++X).length (rE2 _);rw[List.take_length,List.foldl_append,zC1 u X _ h3]at hbf;rw[nF.f_eq,hb];simp only[hE2,lE2,cond_false];rw[hM];simp only[hE2,lE2,cond_false];rw[mC.f_eq,hb];simp only[hE2,lE2,cond_false];rw[hM];simp only[hE2,lE2];rw[mC.l1_eq,cond_false,h2];simp only[hE2];rw[wr (by omega) (by omega)];have hbf':mC.l2 u (nrL z Y++X) (((nrL z Y++X).length:Int)-1) (0,0,())=_:=hbf;rw[hbf'];simp only[hE2];unfold offV
 cases((nrL z Y).foldl (befL u) (false,zSh)).1 with
 | true=>rw[if_pos rfl];rfl
 | false=>rw[if_neg (by simp)];rfl
theorem dN1 {α:Type} (M:Nat) (l a b:List α) (h:l.length≤M):(l++a.take (M-l.length+1)++b).take (M+1)=(l++(a++b)).take (M+1):=by
 by_cases c:a.length≤M-l.length+1
 ·rw[cF2 c,uE2]
 ·have e1:(l++a.take (M-l.length+1)).length=M+1:=by rw[jE2,fF2];omega
  rw[jG2 (by omega),cF2 (by omega),List.take_append,jG2 (by omega),cF2 (show l.length≤M+1 by omega)]
  congr 2
  omega
theorem bD1 {α:Type} (M:Nat) (l a:List α) (h:l.length=M+1):(l++a).take (M+1)=l:=by rw[jG2 (by omega),cF2 (by omega)]
section
variable (lo hi d : Int)
def sel (a b:Int) (ss:List Int):List Int:=(ss.filter fun s=>decide (lo≤3600*a+60*b+s)&&decide (3600*a+60*b+s<hi)).map fun s=>d*86400+(3600*a+60*b+s)
theorem cB1 (a b:Int) (ss:List Int) (h:∀s,s∈ss → ¬(lo≤3600*a+60*b+s∧3600*a+60*b+s<hi)):sel lo hi d a b ss=[]:=by unfold sel;rw[List.map_eq_nil_iff,List.filter_eq_nil_iff];intro s hs;rw[iE2,decide_eq_true_eq,decide_eq_true_eq];exact h s hs
def selH (m c:List Int) (a:Int):List Int:=m.flatMap fun b=>sel lo hi d a b c
theorem lX1 (h m c:List Int):dayL h m c lo hi d=h.flatMap (selH lo hi d m c):=by unfold dayL tod selH sel;simp only[List.filter_flatMap,List.map_flatMap,List.filter_map,List.map_map];rfl
variable (P : PlT) (M : Nat) (hM : M ≤ 200000) (hlo : 0 ≤ lo ∧ lo ≤ 100000) (hhi : 0 ≤ hi ∧ hi ≤ 100000) (hd : -1000000 ≤ d ∧ d ≤ 4000000)
 (oh:okT P.2.2.2.1 23) (om:okT P.2.2.2.2.1 59) (oc:okT P.2.2.2.2.2.1 59)
include hM hlo hhi hd oh om oc
theorem lB2 (i j:Nat) (a b:Int) (ha:0≤a∧a≤23) (hb:0≤b∧b≤59) (hj:j<P.2.2.2.2.1.length) (rest:List Int)
  (C:∀l:List Int,l.length≤M→eA.l3 d lo hi M a P.2.2.2.1 (P.2.2.2.1.length:Int) i P.2.2.2.2.1 (P.2.2.2.2.1.length:Int) ((j+1:Nat):Int) P l=some ((l++rest).take (M+1),(),())):
  ∀(n k:Nat),P.2.2.2.2.2.1.length-k=n→k≤P.2.2.2.2.2.1.length → ∀l:List Int,l.length≤M →
   eA.l5 d lo hi M a (3600*a+60*b) P.2.2.2.1 (P.2.2.2.1.length:Int) i P.2.2.2.2.1 (P.2.2.2.2.1.length:Int) j P.2.2.2.2.2.1 (P.2.2.2.2.2.1.length:Int) k P l=some ((l++(sel lo hi d a b (P.2.2.2.2.2.1.drop k)++rest)).take (M+1),(),()):=by
 have hlim:eD=17179869184:=rfl;have lh:=oh.2.2;have lm:=om.2.2;have lc:=oc.2.2;intro n
 induction n with
 | zero=>
  intro k hk hkl l hl;have e:k=P.2.2.2.2.2.1.length:=by omega
  subst e;have:=C l hl;rw[gF2,hF2]at this;rw[eA.l5_eq];simp(disch:=omega)only[ss];rw[this,jF2];rfl
 | succ n ih=>
  intro k hk hkl l hl;have hlt:k<P.2.2.2.2.2.1.length:=by omega
  have hs:=oc.2.1 _ (yG hlt);have ih':=ih (k+1) (by omega) (by omega);rw[gF2,hF2]at ih';rw[eA.l5_eq,nF2,iB 0 hlt];generalize P.2.2.2.2.2.1.getD k 0=s at hs ⊢;by_cases c1:3600*a+60*b+s<lo
  ·have e:sel lo hi d a b (s::P.2.2.2.2.2.1.drop (k+1))=sel lo hi d a b (P.2.2.2.2.2.1.drop (k+1)):=by unfold sel;rw[List.filter_cons_of_neg (by rw[dn (show ¬lo≤3600*a+60*b+s by omega)];simp)]
   rw[e];simp(disch:=omega)only[ss,eA.l6_eq];exact ih' l hl
  ·by_cases c2:3600*a+60*b+s≥hi
   ·have e:sel lo hi d a b (s::P.2.2.2.2.2.1.drop (k+1))=sel lo hi d a b (P.2.2.2.2.2.1.drop (k+1)):=by unfold sel;rw[List.filter_cons_of_neg (by rw[dn (show ¬3600*a+60*b+s<hi by omega)];simp)]
    rw[e];simp(disch:=omega)only[ss,eA.l6_eq];exact ih' l hl
   ·have e:sel lo hi d a b (s::P.2.2.2.2.2.1.drop (k+1))=(d*86400+(3600*a+60*b+s))::sel lo hi d a b (P.2.2.2.2.2.1.drop (k+1)):=by unfold sel;rw[List.filter_cons_of_pos (by rw[dp (show lo≤3600*a+60*b+s by omega),dp (show 3600*a+60*b+s<hi by omega)];rfl)];rfl
    rw[e];have ea:d*86400+(3600*a+60*b)+s=d*86400+(3600*a+60*b+s):=by omega
    have hlen:(l++[d*86400+(3600*a+60*b+s)]).length=l.length+1:=nG _ _;have eapp:∀x:List Int,l++((d*86400+(3600*a+60*b+s))::x++rest)=l++[d*86400+(3600*a+60*b+s)]++(x++rest):=fun x=>by simp
    rw[eapp];by_cases c3:l.length=M
    ·simp(disch:=omega)only[ss,eA.l6_eq,gM.f_eq,ea,hlen,vE2,hlim];rw[bD1 _ _ _ (by rw[hlen,c3])]
    ·simp(disch:=omega)only[ss,eA.l6_eq,gM.f_eq,ea,hlen,vE2,hlim];exact ih' _ (by rw[hlen];omega)
theorem qZ1 (i:Nat) (a:Int) (ha:0≤a∧a≤23) (hi':i<P.2.2.2.1.length) (rest:List Int)
  (C:∀l:List Int,l.length≤M→eA.l1 d lo hi M P.2.2.2.1 (P.2.2.2.1.length:Int) ((i+1:Nat):Int) P l=some ((l++rest).take (M+1),(),())):
  ∀(n j:Nat),P.2.2.2.2.1.length-j=n→j≤P.2.2.2.2.1.length → ∀l:List Int,l.length≤M →
   eA.l3 d lo hi M a P.2.2.2.1 (P.2.2.2.1.length:Int) i P.2.2.2.2.1 (P.2.2.2.2.1.length:Int) j P l=some ((l++((P.2.2.2.2.1.drop j).flatMap (fun b=>sel lo hi d a b P.2.2.2.2.2.1)++rest)).take (M+1),(),()):=by
 have lh:=oh.2.2;have lm:=om.2.2;have lc:=oc.2.2;intro n
 induction n with
 | zero=>
  intro j hj hjl l hl;have e:j=P.2.2.2.2.1.length:=by omega
  subst e;have:=C l hl;rw[gF2,hF2]at this;rw[eA.l3_eq];simp(disch:=omega)only[ss];rw[this,jF2];rfl
 | succ n ih=>
  intro j hj hjl l hl;have hlt:j<P.2.2.2.2.1.length:=by omega
  have hb:=om.2.1 _ (yG hlt);have ih':=ih (j+1) (by omega) (by omega);have ih2:=ih';rw[gF2,hF2]at ih2;rw[eA.l3_eq,nF2,iB 0 hlt,mG2];generalize P.2.2.2.2.1.getD j 0=b at hb ⊢;by_cases c1:3600*a+60*b+59<lo
  ·rw[cB1 lo hi d a b _ (fun s hs=>by have:=oc.2.1 s hs;omega)];simp(disch:=omega)only[ss,eA.l4_eq];exact ih2 l hl
  ·by_cases c2:3600*a+60*b≥hi
   ·rw[cB1 lo hi d a b _ (fun s hs=>by have:=oc.2.1 s hs;omega)];simp(disch:=omega)only[ss,eA.l4_eq];exact ih2 l hl
   ·have h5:=lB2 lo hi d P M hM hlo hhi hd oh om oc i j a b ha hb hlt _ ih' P.2.2.2.2.2.1.length 0 (by omega) (kE2 _) l hl;rw[qE2,yE2]at h5;simp(disch:=omega)only[ss,eA.l4_eq];rw[h5,uE2]
theorem nA2 :∀(n i:Nat),P.2.2.2.1.length-i=n→i≤P.2.2.2.1.length → ∀l:List Int,l.length≤M →
   eA.l1 d lo hi M P.2.2.2.1 (P.2.2.2.1.length:Int) i P l=some ((l++(P.2.2.2.1.drop i).flatMap (selH lo hi d P.2.2.2.2.1 P.2.2.2.2.2.1)).take (M+1),(),()):=by
 have lh:=oh.2.2;have lm:=om.2.2;have lc:=oc.2.2;intro n
 induction n with
 | zero=>
  intro i hin hil l hl;have e:i=P.2.2.2.1.length:=by omega
  subst e;rw[eA.l1_eq];simp(disch:=omega)only[ss];rw[jF2,List.flatMap_nil,zE2,cF2 (by omega)]
 | succ n ih=>
  intro i hin hil l hl;have hlt:i<P.2.2.2.1.length:=by omega
  have ha:=oh.2.1 _ (yG hlt);have ih':=ih (i+1) (by omega) (by omega);have ih2:=ih';rw[gF2,hF2]at ih2;rw[eA.l1_eq,nF2,iB 0 hlt,mG2];generalize P.2.2.2.1.getD i 0=a at ha ⊢
  have hnil:(∀x:Int,0≤x→x≤3599 → ¬(lo≤3600*a+x∧3600*a+x<hi))→selH lo hi d P.2.2.2.2.1 P.2.2.2.2.2.1 a=[]:=fun q=>by
   unfold selH;rw[List.flatMap_eq_nil_iff];intro b hb;refine cB1 lo hi d a b _ fun s hs=>?_
   have:=oc.2.1 s hs;have:=om.2.1 b hb;have:=q (60*b+s) (by omega) (by omega);omega
  by_cases c1:3600*a+3599<lo
  ·rw[hnil (fun x h1 h2=>by omega)];simp(disch:=omega)only[ss,eA.l2_eq];exact ih2 l hl
  ·by_cases c2:3600*a≥hi
   ·rw[hnil (fun x h1 h2=>by omega)];simp(disch:=omega)only[ss,eA.l2_eq];exact ih2 l hl
   ·have h3:=qZ1 lo hi d P M hM hlo hhi hd oh om oc i a ha hlt _ ih' P.2.2.2.2.1.length 0 (by omega) (kE2 _) l hl;rw[qE2,yE2]at h3;simp(disch:=omega)only[ss,eA.l2_eq];exact h3
theorem eM1 :eA.f P d lo hi M ()=some ((dayL P.2.2.2.1 P.2.2.2.2.1 P.2.2.2.2.2.1 lo hi d).take (M+1),(),()):=by have h:=nA2 lo hi d P M hM hlo hhi hd oh om oc P.2.2.2.1.length 0 (by omega) (kE2 _) [] (kE2 _);rw[qE2,yE2,dF2]at h;rw[eA.f_eq,lX1];exact h
end
theorem mZ1 (P:PlT) (r:Rl) (s:Int) (F:Int→Bool) (pr:Int→Int) (h m c:List Int) (hP:PlanOK P r s F pr h m c) (lo hi B:Int) (M:Nat) (hM:M≤200000) (hlo:0≤lo∧lo≤100000) (hhi:0≤hi∧hi≤100000) (hB:B≤2932896):
  ∀(n:Nat) (d:Int),(B+1-d).toNat=n → -719162≤d → ∀l:List Int,l.length≤M+1→qB.l1 M lo hi B d P l=some ((l++setF F h m c lo hi n d).take (M+1),()):=by
 have hlim:eD=17179869184:=rfl;intro n
 induction n with
 | zero=>
  intro d hn hd l hl;rw[qB.l1_eq,dn (show ¬d≤B by omega),cond_false,qB.l2_eq,cond_false];show _=some ((l++[]).take (M+1),());rw[zE2,cF2 hl]
 | succ n ih=>
  intro d hn hd l hl;have hdB:d≤B:=by omega
  rw[qB.l1_eq,dp hdB,cond_true,qB.l2_eq];by_cases c1:l.length=M+1
  ·rw[dn (show ¬(l.length:Int)≤M by omega),cond_false,bD1 _ _ _ c1]
  ·have hl':l.length≤M:=by omega
   rw[dp (show(l.length:Int)≤M by omega),cond_true,cC.f_eq,hP.fits d];have hw:w6 (d+1)=d+1:=wr (by omega) (by omega);have hwl:w6 ((M:Int)-(l.length:Int))=((M-l.length:Nat):Int):=by rw[wr (by omega) (by omega)];omega
   simp only[hE2,hw,hwl];unfold setF
   cases hF:F d with
   | false=>
    rw[cond_false,if_neg (by simp)];exact ih (d+1) (by omega) (by omega) l hl
   | true=>
    have hday:=eM1 lo hi d P (M-l.length) (by omega) hlo hhi ⟨by omega,by omega⟩ (by rw[hP.eh];exact hP.oh) (by rw[hP.em];exact hP.om) (by rw[hP.ec];exact hP.oc);rw[hP.eh,hP.em,hP.ec]at hday;rw[cond_true,if_pos rfl,hday];have hlen:(l++(dayL h m c lo hi d).take (M-l.length+1)).length≤M+1:=by rw[jE2,fF2];omega
    rw[jE2]at hlen;simp only[hE2];rw[dp (by omega),cond_true,ih (d+1) (by omega) (by omega) _ (by rw[jE2];exact hlen),dN1 _ _ _ _ hl']
theorem half {a b:Nat} (h:a+b<4611686018427387904):w6 (shrI .u64 (IntKind.u64.wrap (w6 ((a:Int)+(b:Int)))) 1)=(((a+b)/2:Nat):Int):=by
 rw[wr (x:=(a:Int)+(b:Int)) (by omega) (by omega),Go.IntWalk.u64_in ((a:Int)+(b:Int)) (by omega)];have e:shrI .u64 ((a:Int)+(b:Int)) 1=(((a+b)/2:Nat):Int):=by show Int.fdiv ((a:Int)+(b:Int)) (2 ^ (min (1:Int).toNat 64))=_;rw[show min (1:Int).toNat 64=1 from rfl,show(2:Int) ^ 1=2 from rfl,Int.fdiv_eq_ediv_of_nonneg _ (by decide)];omega
 rw[e,wr (by omega) (by omega)]
theorem iU1 (a b:Int):cK.f a b=some (decide (a<b),()):=by rw[cK.f_eq];simp(disch:=omega)only[ss,gJ.f_eq,ne_eq,not_true_eq_false]
theorem eY1 (a:Int):yF.f a=some (false,()):=by rw[yF.f_eq];simp(disch:=omega)only[ss,ne_eq,not_true_eq_false]
theorem dC2 {l:List Int} (hl:l.length≤1000000) (hr:Rise l) (t:Int):∀(k a b:Nat),b-a≤k→a≤b→b≤l.length→(∀j,j<a→l.getD j 0<t)→(∀j,b≤j→j<l.length→t≤l.getD j 0) →
  ∃i:Nat,wA.l1 l t (l.length:Int) a b=some ((i:Int),decide (i<l.length∧l.getD i 0=t),())∧i≤l.length∧(∀j,j<i→l.getD j 0<t)∧(∀j,i≤j→j<l.length→t≤l.getD j 0):=by
 have done:∀a:Nat,a≤l.length→(∀j,j<a→l.getD j 0<t)→(∀j,a≤j→j<l.length→t≤l.getD j 0) → ∃i:Nat,wA.l1 l t (l.length:Int) a a=some ((i:Int),decide (i<l.length∧l.getD i 0=t),())∧i≤l.length∧(∀j,j<i→l.getD j 0<t)∧(∀j,i≤j→j<l.length→t≤l.getD j 0):=by
  intro a ha h1 h3;rw[wA.l1_eq];refine⟨a,?_,ha,h1,h3⟩;by_cases hc:a<l.length
  ·by_cases he:l.getD a 0=t
   ·rw[dp (show a<l.length∧l.getD a 0=t from⟨hc,he⟩)];simp(disch:=omega)only[ss]
   ·rw[dn (show ¬(a<l.length∧l.getD a 0=t)from fun q=>he q.2)];simp(disch:=omega)only[ss,eY1]
  ·rw[dn (show ¬(a<l.length∧l.getD a 0=t)from fun q=>hc q.1)];simp(disch:=omega)only[ss]
 intro k
 induction k with
 | zero=>
  intro a b hk hab hb h1 h3;have e:a=b:=by omega
  subst e;exact done a hb h1 h3
 | succ k ih=>
  intro a b hk hab hb h1 h3;by_cases he:a=b
  ·subst he;exact done a hb h1 h3
  ·rw[wA.l1_eq,half (by omega)];have hm1:a≤(a+b)/2:=by omega
   have hm2:(a+b)/2<b:=by omega
   generalize (a+b)/2=m at hm1 hm2;simp(disch:=omega)only[ss,iU1];by_cases hm:l.getD m 0<t
   ·simp(disch:=omega)only[ss];refine ih (m+1) b (by omega) (by omega) hb (fun j hj=>?_) h3;by_cases hjm:j=m
    ·subst hjm;exact hm
    ·have:=lO hr (show j<m by omega) (by omega);omega
   ·simp(disch:=omega)only[ss];refine ih a m (by omega) hm1 (by omega) h1 fun j hj1 hj2=>?_
    by_cases hjm:j=m
    ·subst hjm;omega
    ·have:=lO hr (show m<j by omega) hj2;omega
theorem aV1 {l:List Int} (hl:l.length≤1000000) (hr:Rise l) (t:Int):∃i:Nat,wA.f l t=some ((i:Int),decide (i<l.length∧l.getD i 0=t),())∧i≤l.length∧(t∈l→i<l.length∧l.getD i 0=t):=by
 obtain⟨i,h1,h2,h3,h4⟩:=dC2 hl hr t l.length 0 l.length (by omega) (kE2 _) (rE2 _) (fun j hj=>absurd hj (by omega)) (fun j h1 h2=>absurd h1 (by omega));rw[wA.f_eq];refine⟨i,h1,h2,fun hm=>?_⟩;obtain⟨j,hj,e⟩:=fZ hm;have hij:i≤j:=by
  refine Classical.byContradiction fun c=>?_
  have:=h3 j (by omega);omega
 by_cases c:i=j
 ·subst c;exact⟨hj,e⟩
 ·have:=lO hr (show i<j by omega) hj;have:=h4 i (rE2 _) (by omega);omega
end Go.GV.YtegmfagkklekaaaGreatDoor
