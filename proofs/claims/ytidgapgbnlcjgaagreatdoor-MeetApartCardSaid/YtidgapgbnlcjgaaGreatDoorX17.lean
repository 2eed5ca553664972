/-
Part of the words that the laws of this seat are proved with: no statement of its own, no conditions.
-/
import Derived.Test.YtidgapgbnlcjgaaGreatDoorX16
set_option linter.unusedVariables false
set_option linter.unusedSimpArgs false
namespace Go.GV.YtidgapgbnlcjgaaGreatDoor
open Go.Proofs
abbrev PlT :=Rl×(Rl×Int×(Int×Int×Int×Int×Int×Unit)×Int×Unit)×Int×(List Int)×(List Int)×(List Int)×Unit
noncomputable def per (f w:Int) (we:List Int) (t:Int):Int:=Classical.epsilon fun k=>pZ f w we t k
theorem dR1 {f w:Int} {we:List Int} {t k:Int} (h:pZ f w we t k):pZ f w we t (per f w we t):=Classical.epsilon_spec ⟨k,h⟩
theorem mV1 {f w:Int} {we:List Int} {t k:Int} (h:pZ f w we t k):k=per f w we t:=
 Int.le_antisymm (wW h (dR1 h) (iB2 _)) (wW (dR1 h) h (iB2 _))
noncomputable def ind (p:Prop):Bool:=@decide p (Classical.propDecidable p)
theorem yO {p:Prop}:ind p=true↔p:=@decide_eq_true_iff p (Classical.propDecidable p)
theorem tT1 {p:Prop} (h:p):ind p=true:=yO.2 h
theorem pN1 {p:Prop} (h:¬p):ind p=false:=by
 cases e:ind p with
 | false=>rfl
 | true=>exact absurd (yO.1 e) h
noncomputable def bU (f wkst:Int) (mo we yd md:List Int) (dy:List Dy) (s n:Int):Bool:=
 ind (∃y0 m0 d0 y m d,uG (s/86400) y0 m0 d0∧uG n y m d∧fitP f wkst mo we yd md dy m0 d0 (wk (s/86400)) n y m d)
theorem mE1 {f wkst:Int} {mo we yd md:List Int} {dy:List Dy} {s n:Int} (h:bU f wkst mo we yd md dy s n=true): -719162≤n∧n≤2932896:=by unfold bU at h;obtain⟨y0,m0,d0,y,m,d,_,h,_⟩:=yO.1 h;have:=vE h;omega
structure PlanOK (P:PlT) (r:Rl) (s:Int) (F:Int→Bool) (pr:Int→Int) (h m c:List Int):Prop where
 dmk:xD.f r s=some (P.2.1,true,())
 er:P.1=r
 es:P.2.2.1=s
 eh:P.2.2.2.1=h
 em:P.2.2.2.2.1=m
 ec:P.2.2.2.2.2.1=c
 inS:inT s
 fits:∀n,fB.f P.2.1 n=some (F n,())
 fin:∀n,F n=true → -719162≤n∧n≤2932896
 period:∀t,inT t→dF.f P.2.1 t=some (pr t-pr s,())
 days:∀t,inT t → ∃A B,xC.f P.2.1 t=some (A,B,())∧(A≤t/86400∧t/86400≤B ∧ -719162≤A∧B≤2932896)∧(r.1≤4 → ∀x,inT x→(pr x=pr t↔A≤x/86400∧x/86400≤B))∧(4<r.1→A=t/86400∧B=t/86400)
 p5:r.1=5 → ∀t,inT t→pr t=t/3600
 p6:r.1=6 → ∀t,inT t→pr t=t/60
 p7:r.1=7 → ∀t,inT t→pr t=t
 mono:∀t t',inT t→inT t'→t≤t'→pr t≤pr t'
 bd:∀t,inT t → -300000000000≤pr t∧pr t≤300000000000
 oh:okT h 23
 om:okT m 59
 oc:okT c 59
 fr:1≤r.1∧r.1≤7
 iv:1≤r.2.1∧r.2.1≤1000
 lp:r.2.2.2.2.2.2.2.2.2.2.2.2.2.2.1.length≤1000
section
variable (f iv ct un wkst : Int) (en : Bool) (mo we yd md : List Int) (dy : List Dy) (ho mi se po : List Int)
theorem uO1 (s sec n y0 m0 d0:Int) (hs:fO mo we yd md dy ho mi se po) (hw:0≤wkst∧wkst≤6) (h0:uG (s/86400) y0 m0 d0):
  fB.f ((f,iv,ct,un,wkst,en,mo,we,yd,md,dy,ho,mi,se,po,()),s,(s/86400,y0,m0,d0,wk (s/86400),()),sec,()) n=some (bU f wkst mo we yd md dy s n,()):=by
 by_cases c: -719162≤n∧n≤2932896
 ·obtain⟨y,m,d,h,e,_⟩:=mJ n c.1 c.2;obtain⟨b,h1,h2⟩:=uJ1 f iv ct un wkst en mo we yd md dy ho mi se po s sec (s/86400) y0 m0 d0 (wk (s/86400)) n y m d hs hw h e;rw[h1];have:bU f wkst mo we yd md dy s n=b:=by
   unfold bU
   cases b with
   | true=>exact tT1 ⟨y0,m0,d0,y,m,d,h0,h,h2.1 rfl⟩
   | false=>
    refine pN1 fun⟨y0',m0',d0',y',m',d',g0,g,q⟩=>?_
    obtain⟨rfl,rfl,rfl⟩:=yS g0 h0;obtain⟨rfl,rfl,rfl⟩:=yS g h;exact absurd (h2.2 q) (by simp)
  rw[this]
 ·rw[uL1 f iv ct un wkst en mo we yd md dy ho mi se po s sec (s/86400) y0 m0 d0 (wk (s/86400)) n c];have:bU f wkst mo we yd md dy s n=false:=by
   cases hq:bU f wkst mo we yd md dy s n with
   | false=>rfl
   | true=>exact absurd (mE1 hq) c
  rw[this]
def iZ (s:Int):List Int:=tms ho (decide (f≤4)) (s%86400/3600) 24
def eI1 (s:Int):List Int:=tms mi (decide (f≤5)) (s%86400/60%60) 60
def pL1 (s:Int):List Int:=tms se (decide (f≤6)) (s%86400%60) 60
theorem oS1 (s:Int) (hs:fO mo we yd md dy ho mi se po) (hM:oA.f (f,iv,ct,un,wkst,en,mo,we,yd,md,dy,ho,mi,se,po,())=some (true,())) (ht:inT s):
  ∃P:PlT,eD.f (f,iv,ct,un,wkst,en,mo,we,yd,md,dy,ho,mi,se,po,()) s=some (P,true,()) ∧
   PlanOK P (f,iv,ct,un,wkst,en,mo,we,yd,md,dy,ho,mi,se,po,()) s (bU f wkst mo we yd md dy s) (per f wkst we) (iZ f ho s) (eI1 f mi s) (pL1 f se s):=by
 have hp:=bV1 (r:=(f,iv,ct,un,wkst,en,mo,we,yd,md,dy,ho,mi,se,po,())) hs hM;dsimp only at hp;have hf:1≤f∧f≤7:=⟨hp.1.1.1,hp.1.1.2.1⟩
 have hw:0≤wkst∧wkst≤6:=⟨hp.1.1.2.2.2.2.2.2.1,hp.1.1.2.2.2.2.2.2.2⟩
 have hl:we.length≤100000:=hs.2.1;obtain⟨y0,m0,d0,h0,e0,_⟩:=mJ (s/86400) (sK ht).1 (sK ht).2;have hMk:=bJ _ s hM ht y0 m0 d0 e0;obtain⟨sec,hsec⟩:∃x,x=s%86400:=⟨_,rfl⟩
 have hs1:0≤sec∧sec≤86399:=by omega
 have g1:lD.f ho (decide (f≤4)) (sec/3600) 24=some (iZ f ho s,()):=by rw[hsec];exact(zL ho (decide (f≤4)) (s%86400/3600) 24 (by have:=hp.2.1.2.2.2.2.1.2;omega) (by omega)).1
 have g2:lD.f mi (decide (f≤5)) (sec/60%60) 60=some (eI1 f mi s,()):=by rw[hsec];exact(zL mi (decide (f≤5)) (s%86400/60%60) 60 (by have:=hp.2.1.2.2.2.2.2.1.2;omega) (by omega)).1
 have g3:lD.f se (decide (f≤6)) (sec%60) 60=some (pL1 f se s,()):=by rw[hsec];exact(zL se (decide (f≤6)) (s%86400%60) 60 (by have:=hp.2.1.2.2.2.2.2.2.1.2;omega) (by omega)).1
 have t1:w6 (Int.tdiv sec 3600)=sec/3600:=by rw[tdn hs1.1,wr (by omega) (by omega)]
 have t2:Int.tmod (w6 (Int.tdiv sec 60)) 60=sec/60%60:=by rw[tdn hs1.1,wr (by omega) (by omega),tmn (by omega)]
 have t3:Int.tmod sec 60=sec%60:=tmn hs1.1 _;rw[←hsec]at hMk;refine⟨((f,iv,ct,un,wkst,en,mo,we,yd,md,dy,ho,mi,se,po,()),((f,iv,ct,un,wkst,en,mo,we,yd,md,dy,ho,mi,se,po,()),s,(s/86400,y0,m0,d0,wk (s/86400),()),sec,()),s,iZ f ho s,eI1 f mi s,pL1 f se s,()),?_,?_⟩
 ·rw[eD.f_eq,hMk];simp(disch:=omega)only[ss,pG.f_eq,t1,t2,t3,g1,g2,g3]
 have hper:∀t,inT t→pZ f wkst we t (per f wkst we t)∧(-300000000000≤per f wkst we t∧per f wkst we t≤300000000000)∧dG.f (f,iv,ct,un,wkst,en,mo,we,yd,md,dy,ho,mi,se,po,()) t=some (per f wkst we t+off f wkst,()):=fun t h=>by obtain⟨k,k1,k2,k3,_⟩:=dP1 f iv ct un wkst en mo we yd md dy ho mi se po t h hf hw hl;have e:=mV1 k1;subst e;exact⟨k1,k2,k3⟩
 have hoff:0≤off f wkst∧off f wkst≤2932896:=by unfold off;split <;> (try split) <;> omega
 refine { dmk:=hMk,er:=rfl,es:=rfl,eh:=rfl,em:=rfl,ec:=rfl,inS:=ht,fits:=fun n=>?_,fin:=fun n h=>mE1 h,period:=fun t h=>?_,days:=fun t h=>?_,p5:=fun q t h=>?_,p6:=fun q t h=>?_,p7:=fun q t h=>?_,mono:=fun t t' h h' q=>?_,bd:=fun t h=>(hper t h).2.1,oh:=?_,om:=?_,oc:=?_,fr:=hf,iv:=⟨hp.1.1.2.2.1,hp.1.1.2.2.2.1⟩,lp:=?_ }
 ·exact uO1 f iv ct un wkst en mo we yd md dy ho mi se po s sec n y0 m0 d0 hs hw h0
 ·have a:=hper t h;have b:=hper s ht;have e:per f wkst we t+off f wkst-(per f wkst we s+off f wkst)=per f wkst we t-per f wkst we s:=by omega
  rw[dF.f_eq];simp(disch:=omega)only[ss,a.2.2,b.2.2,e]
 ·obtain⟨A,B,h1,h2,h3⟩:=yL1 f iv ct un wkst en mo we yd md dy ho mi se po s sec (s/86400) y0 m0 d0 (wk (s/86400)) t h hf hw hl;have hd:=sK h;refine⟨A,B,h3,?_,fun q x hx=>?_,h2⟩
  ·by_cases c:f≤4
   ·have:=nV1 (h1 c) hd;omega
   ·have:=h2 (by omega);omega
  ·have hx':=sK hx;have q:f≤4:=q
   have hn:∀t,inT t→yG1 f wkst we (t/86400) (per f wkst we t):=fun t h=>by
    rcases(hper t h).1 with⟨_,a⟩ | ⟨z,_⟩ | ⟨z,_⟩ | ⟨z,_⟩
    ·exact a
    ·omega
    ·omega
    ·omega
   have hb:=nV1 (h1 q) hd;refine⟨fun z=>?_,fun z=>(gN1 (h1 q) (hn t h) (hn x hx) hx').1 z⟩;refine Classical.byContradiction fun hc=>?_
   rcases(show x/86400≤A-1∨B+1≤x/86400 by omega)with g | g
   ·have ht1:inT ((A-1)*86400):=by unfold inT;omega
    have n1:=hn _ ht1;have e:(A-1)*86400/86400=A-1:=by omega
    rw[e]at n1;have k1:=(gN1 (h1 q) (hn t h) n1 (by omega)).2.1 rfl;have k2:=gY (hn x hx) n1 g;omega
   ·have ht1:inT ((B+1)*86400):=by unfold inT;omega
    have n1:=hn _ ht1;have e:(B+1)*86400/86400=B+1:=by omega
    rw[e]at n1;have k1:=(gN1 (h1 q) (hn t h) n1 (by omega)).2.2 rfl;have k2:=gY n1 (hn x hx) g;omega
 ·have q:f=5:=q;rcases(hper t h).1 with⟨z,_⟩ | ⟨_,z⟩ | ⟨z,_⟩ | ⟨z,_⟩
  ·omega
  ·exact z
  ·omega
  ·omega
 ·have q:f=6:=q;rcases(hper t h).1 with⟨z,_⟩ | ⟨z,_⟩ | ⟨_,z⟩ | ⟨z,_⟩
  ·omega
  ·omega
  ·exact z
  ·omega
 ·have q:f=7:=q;rcases(hper t h).1 with⟨z,_⟩ | ⟨z,_⟩ | ⟨z,_⟩ | ⟨_,z⟩
  ·omega
  ·omega
  ·omega
  ·exact z
 ·exact wW (hper t h).1 (hper t' h').1 q
 ·exact aJ1 ho _ _ 23 24 hp.2.1.2.2.2.2.1 (by omega) (by omega) (by omega)
 ·exact aJ1 mi _ _ 59 60 hp.2.1.2.2.2.2.2.1 (by omega) (by omega) (by omega)
 ·exact aJ1 se _ _ 59 60 hp.2.1.2.2.2.2.2.2.1 (by omega) (by omega) (by omega)
 ·have:po.length≤60:=hp.2.1.2.2.2.2.2.2.2.1.2;show po.length≤1000;omega
end
theorem mS1 (r:Rl) (s:Int) (b:Bool) (hM:oA.f r=some (b,())) (h:¬(b=true∧inT s)):
  ∃P:PlT,eD.f r s=some (P,false,()):=by
 rw[eD.f_eq,wS1 r s b hM h];exact⟨_,by simp(disch:=omega)only[ss];rfl⟩
abbrev Sp :=Int×Int×Unit
def cov (l:List Sp) (t:Int):Prop:=∃s∈l,s.1≤t∧t<s.2.1
def nrm (l:List Sp):Prop:=l.Pairwise (fun a b=>a.2.1<b.1) ∧ ∀s∈l,s.1<s.2.1
theorem zW (t:Int):¬cov [] t:=fun⟨s,h,_⟩=>by cases h
theorem vN (s:Sp) (l:List Sp) (t:Int):cov (s::l) t↔(s.1≤t∧t<s.2.1)∨cov l t:=by simp[cov]
theorem mC1 (a b:List Sp) (t:Int):cov (a++b) t↔cov a t∨cov b t:=by
 unfold cov;constructor
 ·rintro⟨s,h,h2⟩;rcases sZ1.1 h with h | h
  ·exact .inl ⟨s,h,h2⟩
  ·exact .inr ⟨s,h,h2⟩
 ·rintro(⟨s,h,h2⟩ | ⟨s,h,h2⟩)
  ·exact⟨s,vZ1 _ h,h2⟩
  ·exact⟨s,rZ1 _ h,h2⟩
def push (out:List Sp) (s:Sp):List Sp:=match out.getLast? with
 | none=>[s]
 | some p=>if s.1≤p.2.1 then out.dropLast++[(p.1,mm true p.2.1 s.2.1,())]else out++[s]
theorem fN (s:Sp):push [] s=[s]:=rfl
theorem cI (o:List Sp) (p s:Sp):push (o++[p]) s=if s.1≤p.2.1 then o++[(p.1,mm true p.2.1 s.2.1,())]else o++[p]++[s]:=by simp[push]
theorem zE1 (out:List Sp) (s:Sp):(push out s).length≤out.length+1:=by
 rcases eH out with rfl | ⟨o,p,rfl⟩
 ·simp[push]
 ·rw[cI];split <;> simp
structure Put (out:List Sp) (v:Int):Prop where
 nrm:nrm out
 lo:∀s∈out,s.1≤v
theorem wO1 {out:List Sp} {s:Sp} (h:Put out s.1) (hs:s.1<s.2.1):Put (push out s) s.1 ∧ ∀t,cov (push out s) t↔cov out t∨(s.1≤t∧t<s.2.1):=by
 rcases eH out with rfl | ⟨o,p,rfl⟩
 ·rw[fN];exact⟨⟨⟨tC2 _ _,fun x hx=>by simp at hx;subst hx;exact hs⟩,fun x hx=>by simp at hx;subst hx;exact iB2 _⟩,fun t=>by rw[vN];constructor <;> rintro(h | h) <;> first | exact .inr h | exact absurd h (zW _) | exact .inl h⟩
 ·have hp:=h.nrm.2 p (by simp);have hpl:=h.lo p (by simp);have ho:=dB2.1 h.nrm.1;rw[cI,xR];by_cases hc:s.1≤p.2.1
  ·rw[if_pos hc];refine⟨⟨⟨dB2.2 ⟨ho.1,tC2 _ _,fun a ha b hb=>?_⟩,fun x hx=>?_⟩,fun x hx=>?_⟩,fun t=>?_⟩
   ·simp at hb;subst hb;exact ho.2.2 a ha p (by simp)
   ·rcases sZ1.1 hx with hx | hx
    ·exact h.nrm.2 x (by simp[hx])
    ·simp at hx;subst hx;show p.1<max p.2.1 s.2.1;omega
   ·rcases sZ1.1 hx with hx | hx
    ·exact h.lo x (by simp[hx])
    ·simp at hx;subst hx;exact hpl
   ·rw[mC1,mC1,vN,vN];show cov o t∨(p.1≤t∧t<max p.2.1 s.2.1)∨cov [] t↔_;have:=zW t;constructor
    ·rintro(h1 | h1 | h1)
     ·exact .inl (.inl h1)
     ·by_cases h2:t<p.2.1
      ·exact .inl (.inr (.inl ⟨h1.1,h2⟩))
      ·exact .inr ⟨by omega,by omega⟩
     ·exact absurd h1 this
    ·rintro((h1 | h1 | h1) | h1)
     ·exact .inl h1
     ·exact .inr (.inl ⟨h1.1,by omega⟩)
     ·exact absurd h1 this
     ·exact .inr (.inl ⟨by omega,by omega⟩)
  ·rw[if_neg hc];refine⟨⟨⟨dB2.2 ⟨h.nrm.1,tC2 _ _,fun a ha b hb=>?_⟩,fun x hx=>?_⟩,fun x hx=>?_⟩,fun t=>?_⟩
   ·simp at hb;subst hb;rcases sZ1.1 ha with ha | ha
    ·have:=ho.2.2 a ha p (by simp);omega
    ·simp at ha;subst ha;omega
   ·rcases sZ1.1 hx with hx | hx
    ·exact h.nrm.2 x hx
    ·simp at hx;subst hx;exact hs
   ·rcases sZ1.1 hx with hx | hx
    ·exact h.lo x hx
    ·simp at hx;subst hx;exact iB2 _
   ·rw[mC1 (o++[p]),vN];have:=zW t;constructor
    ·rintro(h1 | h1 | h1)
     ·exact .inl h1
     ·exact .inr h1
     ·exact absurd h1 this
    ·rintro(h1 | h1)
     ·exact .inl h1
     ·exact .inr (.inl h1)
theorem gF1 :∀(l out:List Sp),(∀s∈l,s.1<s.2.1)→l.Pairwise (fun a b=>a.1≤b.1)→nrm out→(∀s∈l,∀a∈out,a.1≤s.1)→nrm (l.foldl push out) ∧ ∀t,cov (l.foldl push out) t↔cov out t∨cov l t
 | [],out,_,_,hn,_=>⟨hn,fun t=>⟨.inl,fun h=>h.elim id fun h=>absurd h (zW t)⟩⟩
 | s::l,out,h1,h2,hn,h3=>by
  rw[tA2]at h2;obtain⟨h4,h5⟩:=wO1 (out:=out) (s:=s) ⟨hn,h3 s nZ1⟩ (h1 s nZ1);obtain⟨h6,h7⟩:=gF1 l (push out s) (fun x hx=>h1 x (jZ1 _ hx)) h2.2 h4.nrm fun x hx a ha=>Int.le_trans (h4.lo a ha) (h2.1 x hx)
  refine⟨h6,fun t=>?_⟩;rw[vB2,h7,h5,vN,or_assoc]
theorem pY :∀(l out:List Sp),(l.foldl push out).length≤out.length+l.length
 | [],_=>by simp
 | s::l,out=>by have h1:=pY l (push out s);have h2:=zE1 out s;simp only[vB2,hA2];omega
theorem qS1 (l:List Sp) (h:l.length≤1000000) (hb:∀s∈l,(-1000000000000≤s.1∧s.1≤1000000000000) ∧ -1000000000000≤s.2.1∧s.2.1≤1000000000000):
  ∃r,uB.f l ()=some (r,(),())∧r.Perm l∧r.Pairwise (fun x y=>x.1≤y.1):=by
 have hall:l.all bM=true:=cB2.2 fun d hd=>by have:=hb d hd;unfold bM Go.GV.small;simp only[iZ1,decide_eq_true_eq];omega
 obtain⟨r,hr⟩:∃r:List Sp,wN bM zf59 cf59 l=some r:=by unfold wN;rw[hall];exact⟨_,rfl⟩
 have hp:List.Perm (α:=Sp) r l:=jO lL1 hr;have hso0:List.Pairwise (α:=Sp) (fun a b=>¬cf59 b a<0) r:=jB1 lL1 hr;refine⟨r,?_,hp,hso0.imp fun {a b} h=>?_⟩
 ·rw[uB.f_sem];show(bif decide (List.length l≤yC)then(wN bM zf59 cf59 l).map (fun ys=>(ys,(),()))else none)=_;rw[dp (by simp only[yC];omega),cond_true,hr];rfl
 ·have h2:=iE1 b.1 a.1;have h3:decide (wR b.1 a.1<0)=false:=decide_eq_false h;rw[h3]at h2;have:=of_decide_eq_false h2.symm;omega
theorem sT1 (inn:List Sp) (hl:inn.length≤1000000):∀(k i:Nat) (out:List Sp),inn.length-i=k→i≤inn.length→out.length≤i →
  rC.l1 inn inn.length i out=some ((inn.drop i).foldl push out,()):=by
 have hlim:yC=17179869184:=rfl;intro k
 induction k with
 | zero=>
  intro i out hk hi ho;have e:i=inn.length:=by omega
  subst e;rw[rC.l1_eq];simp(disch:=omega)only[ss,vA2,List.foldl_nil]
 | succ k ih=>
  intro i out hk hi ho;have hlt:i<inn.length:=by omega
  have hs:∀s:Sp,(s.1,s.2.1,())=s:=fun s=>rfl
  rw[rC.l1_eq,vB (0,0,()) hlt,vB2];have hpl:=zE1 out (inn.getD i (0,0,()));rw[←ih (i+1) (push out (inn.getD i (0,0,()))) (by omega) (by omega) (by omega)];rcases eH out with rfl | ⟨o,p,rfl⟩
  ·rw[fN];simp(disch:=omega)only[ss,gB2,yZ1,rC.l2_eq,sA2,lA2,hs,hlim];rfl
  ·rw[uD]at ho;rw[cI];simp(disch:=omega)only[ss,uD,xA2,yA2,Int.add_sub_cancel,rC.l2_eq,sA2,hs,mR,kO1,hlim];by_cases hc:(inn.getD i (0,0,())).1≤p.2.1
   ·simp(disch:=omega)only[ss,if_pos hc]
   ·simp(disch:=omega)only[ss,if_neg hc]
theorem dQ1 (l:List Sp) (hl:l.length≤1000000):rC.f l=some (l.foldl push [],()):=by have:=sT1 l hl _ 0 [] rfl (oZ1 _) (tZ1 _);rw[pA2,yZ1]at this;rw[rC.f_eq];exact this
theorem wP1 (a b:List Sp) (hab:a.length=b.length) (hl:a.length≤1000000):∀(k i:Nat),a.length-i=k→i≤a.length→rB.l1 a b (i:Int)=some (decide (a.drop i=b.drop i),()):=by
 intro k
 induction k with
 | zero=>
  intro i hk hi;have e1:a.drop i=[]:=wB2 (by omega);have e2:b.drop i=[]:=wB2 (by omega);rw[rB.l1_eq,e1,e2];simp(disch:=omega)only[ss]
 | succ k ih=>
  intro i hk hi;have h1:i<a.length:=by omega
  have h2:i<b.length:=by omega
  have iff2:(a.drop i=b.drop i)↔((a.getD i (0,0,())).1=(b.getD i (0,0,())).1∧(a.getD i (0,0,())).2.1=(b.getD i (0,0,())).2.1)∧a.drop (i+1)=b.drop (i+1):=by
   rw[vB ((0,0,()):Sp) h1,vB ((0,0,()):Sp) h2,List.cons.injEq];constructor
   ·rintro⟨q1,q2⟩;rw[q1];exact⟨⟨rfl,rfl⟩,q2⟩
   ·rintro⟨⟨q1,q2⟩,q3⟩;exact⟨Prod.ext q1 (Prod.ext q2 rfl),q3⟩
  rw[rB.l1_eq];by_cases c1:(a.getD i (0,0,())).1=(b.getD i (0,0,())).1
  ·by_cases c2:(a.getD i (0,0,())).2.1=(b.getD i (0,0,())).2.1
   ·simp(disch:=omega)only[ss,rB.l2_eq];refine(ih (i+1) (by omega) (by omega)).trans ?_;rw[decide_eq_decide.2 (iff2.trans ⟨fun q=>q.2,fun q=>⟨⟨c1,c2⟩,q⟩⟩)]
   ·simp(disch:=omega)only[ss,rB.l2_eq];rw[dn (fun q=>c2 (iff2.1 q).1.2)]
  ·simp(disch:=omega)only[ss,rB.l2_eq];rw[dn (fun q=>c1 (iff2.1 q).1.1)]
theorem fW (a b:List Sp) (hl:a.length≤1000000):rB.f a b=some (decide (a=b),()):=by
 rw[rB.f_eq];by_cases c:a.length=b.length
 ·have:=wP1 a b c hl _ 0 rfl (oZ1 _);rw[yZ1,pA2,pA2]at this;simp(disch:=omega)only[ss];exact this
 ·simp(disch:=omega)only[ss];rw[dn (fun q=>c (by rw[q]))]
def spF (U:Int→Int) (du hi:Int) (L:List Int):List Sp:=(L.filter fun t=>decide (U t<hi)).map fun t=>(U t,U t+du,())
theorem dY {U:Int→Int} {du hi:Int} {L:List Int} {s:Sp}:s∈spF U du hi L ↔ ∃t,t∈L∧U t<hi∧s=(U t,U t+du,()):=by
 unfold spF;rw[bA2];constructor
 ·rintro⟨t,h,rfl⟩;rw[oB2,decide_eq_true_eq]at h;exact⟨t,h.1,h.2,rfl⟩
 ·rintro⟨t,h1,h2,rfl⟩;exact⟨t,oB2.2 ⟨h1,dp h2⟩,rfl⟩
theorem lC1 (U:Int→Int) (du hi:Int) (L:List Int):(spF U du hi L).length≤L.length:=by unfold spF;rw[wA2];exact List.length_filter_le _ _
abbrev Zn :Type:=Int×List (Int×Int×Unit)×List (Int×Int×Int×Int×Int×Unit)×Int×Unit
abbrev zZ :Zn:=(0,[],[],0,())
def okU (Z:Zn) (U:Int→Int) (L:List Int):Prop:=∀t∈L,tC.f Z t=some (U t,()) ∧ -500000000000≤U t∧U t≤500000000000
section
variable (zs : List Zn) (hi : Int) (L : List Int) (U : Int → Int)
theorem rO1 (m:Int×Int×Int×Bool×(Int×Int×Int×Int×Int×Bool×List Int×List Int×List Int×List Int×List (Int×Int×Unit)×List Int×List Int×List Int×List Int×Unit)×List Int×List Int×Unit) (hz:0≤m.1∧m.1<(zs.length:Int)) (hl:L.length≤1000000) (hd:0≤m.2.2.1∧m.2.2.1≤2678400) (hU:okU (zs.getD m.1.toNat zZ) U L):∀(k i:Nat) (acc:List Sp),L.length-i=k→i≤L.length→acc.length≤i →
  jB.l2 zs hi L (L.length:Int) (i:Int) m acc=(uB.f (acc++spF U m.2.2.1 hi (L.drop i)) ()).bind fun t7=>(rC.f t7.1).bind fun t8=>some (t8.1,0,()):=by
 have hlim:yC=17179869184:=rfl;intro k
 induction k with
 | zero=>
  intro i acc hk hi' ha;have e:i=L.length:=by omega
  subst e;rw[jB.l2_eq,vA2];simp(disch:=omega)only[ss,show spF U m.2.2.1 hi []=[]from rfl,cA2]
 | succ k ih=>
  intro i acc hk hi' ha;have hlt:i<L.length:=by omega
  obtain⟨u1,u2,u3⟩:=hU (L.getD i 0) (qK 0 hlt)
  have hst:spF U m.2.2.1 hi (L.drop i)=(if U (L.getD i 0)<hi then [(U (L.getD i 0),U (L.getD i 0)+m.2.2.1,())]else [])++spF U m.2.2.1 hi (L.drop (i+1)):=by
   rw[vB 0 hlt];unfold spF;rw[List.filter_cons];by_cases c:U (L.getD i 0)<hi
   ·rw[dp c,if_pos rfl,if_pos c];rfl
   ·rw[dn c,if_neg (by simp),if_neg c];rfl
  rw[jB.l2_eq,hst];simp(disch:=omega)only[ss,u1];by_cases c:U (L.getD i 0)<hi
  ·simp(disch:=omega)only[ss,if_pos c,sA2,hlim];have:=ih (i+1) (acc++[(U (L.getD i 0),U (L.getD i 0)+m.2.2.1,())]) (by omega) (by omega) (by simp;omega);rw[gA2]at this;exact this
  ·simp(disch:=omega)only[ss,if_neg c,lA2];exact ih (i+1) acc (by omega) (by omega) (by omega)
theorem gZ (m:Int×Int×Int×Bool×(Int×Int×Int×Int×Int×Bool×List Int×List Int×List Int×List Int×List (Int×Int×Unit)×List Int×List Int×List Int×List Int×Unit)×List Int×List Int×Unit) (hz:0≤m.1∧m.1<(zs.length:Int)) (hl:L.length≤1000000) (hd:0≤m.2.2.1∧m.2.2.1≤2678400) (hU:okU (zs.getD m.1.toNat zZ) U L):
  ∃r:List Sp,r.Perm (spF U m.2.2.1 hi L)∧r.Pairwise (fun x y=>x.1≤y.1)∧jB.l2 zs hi L (L.length:Int) 0 m []=some (r.foldl push [],0,()):=by
 have h:=rO1 zs hi L U m hz hl hd hU _ 0 [] rfl (oZ1 _) (tZ1 _);have hsl:=lC1 U m.2.2.1 hi L
 obtain⟨r,h1,h2,h3⟩:=qS1 (spF U m.2.2.1 hi L) (by omega) fun s hs=>by obtain⟨t,ht,_,rfl⟩:=dY.1 hs;have:=(hU t ht).2;dsimp only;omega
 refine⟨r,h2,h3,?_⟩;have hrl:=h2.length_eq;rw[pA2,lA2,h1,yZ1]at h;rw[h];simp only[hZ1];rw[dQ1 r (by omega)];rfl
end
abbrev Yl :Type:=Int×Int×Int×Int×Int×Unit
abbrev zYl :Yl:=(0,0,0,0,0,())
abbrev zSh :Sp:=(0,0,())
def offP (n:Int):Prop:= -64800≤n∧n≤64800
theorem gM (n:Int):nC (eG.f n) (offP n):=by
 unfold offP;rw[eG.f_eq];by_cases c:n ≥ -64800
 ·rw[dp c];exact⟨_,rfl,by rw[decide_eq_true_eq];omega⟩
 ·rw[dn c];exact⟨_,rfl,by simp;omega⟩
def okS (l:List Sp) (j:Nat):Prop:=inT (l.getD j zSh).1∧offP (l.getD j zSh).2.1∧(0<j→(l.getD (j-1) zSh).1+200000≤(l.getD j zSh).1)
def qY (l:List Sp):Prop:=(∀j,j<l.length→okS l j)∧l.length≤64
theorem vJ1 (l:List Sp) (hl:l.length≤1000000):∀(k i:Nat),l.length-i=k→i≤l.length→(∀j,j<i→inT (l.getD j zSh).1) →
  nC (iB.l1 l l (l.length:Int) (i:Int)) ((∀j,i≤j→j<l.length→okS l j)∧l.length≤64):=by
 intro k
 induction k with
 | zero=>
  intro i hk hil _;rw[iB.l1_eq];simp(disch:=omega)only[ss];refine⟨_,rfl,?_⟩;rw[decide_eq_true_eq];exact⟨fun h=>⟨fun j h1 h2=>by omega,by omega⟩,fun h=>by omega⟩
 | succ k ih=>
  intro i hk hil hin;have hlt:i<l.length:=by omega
  have step:okS l i→nC (iB.l2 l l (l.length:Int) (i:Int) false) ((∀j,i≤j→j<l.length→okS l j)∧l.length≤64):=fun h=>by
   rw[iB.l2_eq];simp(disch:=omega)only[ss];refine(ih (i+1) (by omega) (by omega) fun j hj=>?_).iff ⟨fun q=>⟨fun j h1 h2=>?_,q.2⟩,fun q=>⟨fun j h1 h2=>q.1 j (by omega) h2,q.2⟩⟩
   ·by_cases e:j=i
    ·subst e;exact h.1
    ·exact hin j (by omega)
   ·by_cases e:j=i
    ·subst e;exact h
    ·exact q.1 j (by omega) h2
  have stop:¬okS l i→nC (iB.l2 l l (l.length:Int) (i:Int) true) ((∀j,i≤j→j<l.length→okS l j)∧l.length≤64):=fun h=>by rw[iB.l2_eq,cond_true];exact⟨false,rfl,by simp;intro q;exact absurd (q i (tZ1 _) hlt) h⟩
  have hm:=(qN (l.getD i zSh).1).1;obtain⟨b,hb,hi⟩:=gM (l.getD i zSh).2.1;rw[iB.l1_eq];simp(disch:=omega)only[ss,hm];by_cases c1:inT (l.getD i zSh).1
  ·rw[dp c1,mZ1,cond_false];simp(disch:=omega)only[ss,hb]
   cases b with
   | false=>
    rw[aA2,cond_true];exact stop fun q=>by have:=hi.2 q.2.1;cases this
   | true=>
    rw[mZ1,cond_false];by_cases h0:i=0
    ·simp(disch:=omega)only[ss];exact step ⟨c1,hi.1 rfl,fun q=>by omega⟩
    ·have hp:=hin (i-1) (by omega);have hw:w6 ((l.getD (i-1) zSh).1+200000)=(l.getD (i-1) zSh).1+200000:=wr (by omega) (by omega);simp(disch:=omega)only[ss,hw];by_cases c:(l.getD i zSh).1<(l.getD (i-1) zSh).1+200000
     ·rw[dp c];exact stop fun q=>by have:=q.2.2 (by omega);omega
     ·rw[dn c];exact step ⟨c1,hi.1 rfl,fun _=>by omega⟩
  ·rw[dn c1,aA2,cond_true];exact stop fun q=>c1 q.1
theorem iC1 (l:List Sp) (hl:l.length≤1000000):nC (iB.f l) (qY l):=by
 have:=vJ1 l hl _ 0 rfl (oZ1 _) fun j hj=>by omega
 rw[yZ1]at this;rw[iB.f_eq];exact this.iff ⟨fun q=>⟨fun j hj=>q.1 j (oZ1 _) hj,q.2⟩,fun q=>⟨fun j _ hj=>q.1 j hj,q.2⟩⟩
def okY (x:Yl):Prop:=1≤x.1∧x.1≤12∧1≤x.2.1∧x.2.1≤5∧0≤x.2.2.1∧x.2.2.1≤6∧0≤x.2.2.2.1∧x.2.2.2.1<86400∧offP x.2.2.2.2.1
def dE1 (l:List Yl):Prop:=(∀j,j<l.length→okY (l.getD j zYl))∧2≤(l.getD 1 zYl).1-(l.getD 0 zYl).1∧(l.getD 1 zYl).1-(l.getD 0 zYl).1≤10
theorem pO1 (l:List Yl) (h2:l.length=2):∀(k i:Nat),l.length-i=k→i≤l.length→(∀j,j<i→okY (l.getD j zYl)) →
  nC (dB.l1 l l (l.length:Int) (i:Int)) ((∀j,i≤j→j<l.length→okY (l.getD j zYl))∧2≤(l.getD 1 zYl).1-(l.getD 0 zYl).1∧(l.getD 1 zYl).1-(l.getD 0 zYl).1≤10):=by
 intro k
 induction k with
 | zero=>
  intro i hk hil hin;have a0:=hin 0 (by omega);have a1:=hin 1 (by omega);unfold okY at a0 a1;have hw:w6 ((l.getD 1 zYl).1-(l.getD 0 zYl).1)=(l.getD 1 zYl).1-(l.getD 0 zYl).1:=wr (by omega) (by omega);rw[dB.l1_eq];by_cases c:(l.getD 1 zYl).1-(l.getD 0 zYl).1≥2
  ·simp(disch:=omega)only[ss,hw];refine⟨_,rfl,?_⟩;rw[decide_eq_true_eq];exact⟨fun h=>⟨fun j h1 h2=>by omega,by omega,h⟩,fun h=>h.2.2⟩
  ·simp(disch:=omega)only[ss,hw];exact⟨false,rfl,(fun h=>by cases h),fun h=>absurd h.2.1 c⟩
 | succ k ih=>
  intro i hk hil hin;have hlt:i<l.length:=by omega
  have step:okY (l.getD i zYl)→nC (dB.l2 l l (l.length:Int) (i:Int) false) ((∀j,i≤j→j<l.length→okY (l.getD j zYl))∧2≤(l.getD 1 zYl).1-(l.getD 0 zYl).1∧(l.getD 1 zYl).1-(l.getD 0 zYl).1≤10):=fun h=>by
   rw[dB.l2_eq];simp(disch:=omega)only[ss];refine(ih (i+1) (by omega) (by omega) fun j hj=>?_).iff ⟨fun q=>⟨fun j h1 h2=>?_,q.2⟩,fun q=>⟨fun j h1 h2=>q.1 j (by omega) h2,q.2⟩⟩
   ·by_cases e:j=i
    ·subst e;exact h
    ·exact hin j (by omega)
   ·by_cases e:j=i
    ·subst e;exact h
    ·exact q.1 j (by omega) h2
  have stop:¬okY (l.getD i zYl)→nC (dB.l2 l l (l.length:Int) (i:Int) true) ((∀j,i≤j→j<l.length→okY (l.getD j zYl))∧2≤(l.getD 1 zYl).1-(l.getD 0 zYl).1∧(l.getD 1 zYl).1-(l.getD 0 zYl).1≤10):=fun h=>by rw[dB.l2_eq,cond_true];exact⟨false,rfl,by simp;intro q;exact absurd (q i (tZ1 _) hlt) h⟩
  unfold okY at step stop;obtain⟨b,hb,hi⟩:=gM (l.getD i zYl).2.2.2.2.1;rw[dB.l1_eq];simp(disch:=omega)only[dp,cond_true,eB2];by_cases c1:(l.getD i zYl).1<1
  ·rw[dp c1];exact stop fun q=>by omega
  rw[dn c1,cond_false];by_cases c2:(l.getD i zYl).1>12
  ·rw[dp c2];exact stop fun q=>by omega
  rw[dn c2,cond_false];by_cases c3:(l.getD i zYl).2.1<1
  ·rw[dp c3];exact stop fun q=>by omega
  rw[dn c3,cond_false];by_cases c4:(l.getD i zYl).2.1>5
  ·rw[dp c4];exact stop fun q=>by omega
  rw[dn c4,cond_false];by_cases c5:(l.getD i zYl).2.2.1<0
  ·rw[dp c5];exact stop fun q=>by omega
  rw[dn c5,cond_false];by_cases c6:(l.getD i zYl).2.2.1>6
  ·rw[dp c6];exact stop fun q=>by omega
  rw[dn c6,cond_false];by_cases c7:(l.getD i zYl).2.2.2.1<0
  ·rw[dp c7];exact stop fun q=>by omega
  rw[dn c7,cond_false];by_cases c8:(l.getD i zYl).2.2.2.1≥86400
  ·rw[dp c8];exact stop fun q=>by omega
  rw[dn c8,cond_false,hb];simp only[hZ1]
  cases b with
  | false=>exact stop fun q=>by have:=hi.2 q.2.2.2.2.2.2.2.2;cases this
  | true=>exact step ⟨by omega,by omega,by omega,by omega,by omega,by omega,by omega,by omega,hi.1 rfl⟩
theorem qH1 (l:List Yl) (h2:l.length=2):nC (dB.f l) (dE1 l):=by
 have:=pO1 l h2 _ 0 rfl (oZ1 _) fun j hj=>by omega
 rw[yZ1]at this;rw[dB.f_eq];exact this.iff ⟨fun q=>⟨fun j hj=>q.1 j (oZ1 _) hj,q.2⟩,fun q=>⟨fun j _ hj=>q.1 j hj,q.2⟩⟩
def rH (z:Zn):Prop:=offP z.1∧qY z.2.1 ∧
 ((z.2.2.1=[]∧z.2.2.2.1=0)∨(z.2.2.1.length=2∧dE1 z.2.2.1∧1≤z.2.2.2.1∧z.2.2.2.1≤9999∧(z.2.1=[]∨(z.2.1.getD (z.2.1.length-1) zSh).1+200000≤fst_ z.2.2.2.1*86400)))
theorem jI1 (y m d:Int):lC.f y m d 0 0 0=some (if oK y m d=true then((fst_ y+d-1+cum y m)*86400,0,())else(0,1,())):=by
 rw[lC.f_eq,rA1];by_cases c:oK y m d=true
 ·rw[if_pos c,if_pos c];have hv:=fC.1 c;have h1:=wS y (by omega) (by omega);have h2:=mK y m;have h3:=eJ y m;simp(disch:=omega)only[ss,lC.l1_eq];simp
 ·rw[if_neg c,if_neg c];simp(disch:=omega)only[ss,lC.l1_eq]
theorem bY (y:Int):lC.f y 1 1 0 0 0=some (if 1≤y∧y≤9999 then(fst_ y*86400,0,())else(0,1,())):=by
 rw[jI1,oA1];have hm:mlen y 1=31:=by unfold mlen;simp
 by_cases c:1≤y∧y≤9999
 ·rw[if_pos c,if_pos (fC.2 ⟨c.1,c.2,by omega,by omega⟩)]
  congr 3
  omega
 ·rw[if_neg c,if_neg fun q=>c ⟨(fC.1 q).1,(fC.1 q).2.1⟩]
theorem bN1 (z:Zn) (h1:z.2.1.length≤1000000):nC (gC.f z) (rH z):=by
 obtain⟨base,sh,ys,kF,⟨⟩⟩:=z;dsimp only at h1
 have stop:¬rH (base,sh,ys,kF,())→nC (gC.l1 true (base,sh,ys,kF,())) (rH (base,sh,ys,kF,())):=fun q=>by rw[gC.l1_eq,cond_true];exact⟨false,rfl,(fun h=>by cases h),fun h=>absurd h q⟩
 unfold rH at stop ⊢;dsimp only at stop ⊢;obtain⟨b,hb,hi⟩:=gM base;obtain⟨d,hd,he⟩:=iC1 sh h1;rw[gC.f_eq];dsimp only;rw[hb];simp only[hZ1]
 cases b with
 | false=>exact stop fun q=>by have:=hi.2 q.1;cases this
 | true=>
 rw[mZ1,cond_false,hd];simp only[hZ1]
 cases d with
 | false=>exact stop fun q=>by have:=he.2 q.2.1;cases this
 | true=>
 rw[mZ1,gC.l1_eq,cond_false];dsimp only;have hbase:=hi.1 rfl;have hsh:=he.1 rfl;by_cases c0:(ys.length:Int)=0
 ·have e:ys=[]:=xZ1 (by omega);subst e;rw[dp c0,cond_true];refine⟨_,rfl,?_⟩;rw[decide_eq_true_eq];exact⟨fun h=>⟨hbase,hsh,.inl ⟨rfl,h⟩⟩,fun h=>h.2.2.elim (fun q=>q.2) fun q=>by simp at q⟩
 ·rw[dn c0,cond_false];have hne:ys≠[]:=fun e=>c0 (by rw[e];rfl)
  by_cases c2:(ys.length:Int)=2
  ·rw[dp c2,cond_true,bY];obtain⟨e,he',hi'⟩:=qH1 ys (by omega)
   have st2:∀x,¬(offP base∧qY sh∧((ys=[]∧kF=0)∨(ys.length=2∧dE1 ys∧1≤kF∧kF≤9999∧(sh=[]∨(sh.getD (sh.length-1) zSh).1+200000≤fst_ kF*86400))))→nC (gC.l2 x true (base,sh,ys,kF,())) (offP base∧qY sh∧((ys=[]∧kF=0)∨(ys.length=2∧dE1 ys∧1≤kF∧kF≤9999∧(sh=[]∨(sh.getD (sh.length-1) zSh).1+200000≤fst_ kF*86400)))):=fun x q=>by rw[gC.l2_eq,cond_true];exact⟨false,rfl,(fun h=>by cases h),fun h=>absurd h q⟩
   by_cases c3:1≤kF∧kF≤9999
   ·rw[if_pos c3];simp only[hZ1,decide_true,mZ1,cond_false];rw[he'];simp only[hZ1]
    cases e with
    | false=>exact st2 _ fun q=>q.2.2.elim (fun q=>hne q.1) fun q=>by have:=hi'.2 q.2.1;cases this
    | true=>
     rw[mZ1,gC.l2_eq,cond_false];dsimp only;by_cases c4:(sh.length:Int)=0
     ·have e:sh=[]:=xZ1 (by omega);rw[dp c4,cond_true];exact⟨true,rfl,fun _=>⟨hbase,hsh,.inr ⟨by omega,hi'.1 rfl,c3.1,c3.2,.inl e⟩⟩,fun _=>rfl⟩
     ·have hb2:=hsh.1 (sh.length-1) (by omega);have hbt:=hb2.1;have hw:w6 ((sh.length:Int)-1)=((sh.length-1:Nat):Int):=by rw[wr (by omega) (by omega)];omega
      have hw2:w6 ((sh.getD (sh.length-1) zSh).1+200000)=(sh.getD (sh.length-1) zSh).1+200000:=wr (by omega) (by omega);rw[dn c4,cond_false,hw];simp(disch:=omega)only[ss,hw2];refine⟨_,rfl,?_⟩;rw[decide_eq_true_eq];constructor
      ·exact fun h=>⟨hbase,hsh,.inr ⟨by omega,hi'.1 rfl,c3.1,c3.2,.inr h⟩⟩
      ·exact fun h=>h.2.2.elim (fun q=>absurd q.1 hne) fun q=>q.2.2.2.2.elim (fun e=>absurd (by rw[e];rfl) c4) id
   ·rw[if_neg c3];exact st2 _ fun q=>q.2.2.elim (fun q=>hne q.1) fun q=>c3 ⟨q.2.2.1,q.2.2.2.1⟩
  ·rw[dn c2,cond_false];exact⟨false,rfl,(fun h=>by cases h),fun h=>h.2.2.elim (fun q=>absurd q.1 hne) fun q=>absurd (by have:=q.1;omega) c2⟩
theorem rK1 {α:Type} (M:Nat) (l a b:List α) (h:l.length≤M):(l++a.take (M-l.length+1)++b).take (M+1)=(l++(a++b)).take (M+1):=by
 by_cases c:a.length≤M-l.length+1
 ·rw[zZ1 c,gA2]
 ·have e1:(l++a.take (M-l.length+1)).length=M+1:=by rw[lZ1,wZ1];omega
  rw[mB2 (by omega),zZ1 (by omega),List.take_append,mB2 (by omega),zZ1 (show l.length≤M+1 by omega)]
  congr 2
  omega
theorem pA1 {α:Type} (M:Nat) (l a:List α) (h:l.length=M+1):(l++a).take (M+1)=l:=by rw[mB2 (by omega),zZ1 (by omega)]
section
variable (lo hi d : Int)
def sel (a b:Int) (ss:List Int):List Int:=(ss.filter fun s=>decide (lo≤3600*a+60*b+s)&&decide (3600*a+60*b+s<hi)).map fun s=>d*86400+(3600*a+60*b+s)
theorem mY (a b:Int) (ss:List Int) (h:∀s,s∈ss → ¬(lo≤3600*a+60*b+s∧3600*a+60*b+s<hi)):sel lo hi d a b ss=[]:=by unfold sel;rw[List.map_eq_nil_iff,List.filter_eq_nil_iff];intro s hs;rw[iZ1,decide_eq_true_eq,decide_eq_true_eq];exact h s hs
def selH (m c:List Int) (a:Int):List Int:=m.flatMap fun b=>sel lo hi d a b c
theorem uS1 (h m c:List Int):dayL h m c lo hi d=h.flatMap (selH lo hi d m c):=by unfold dayL tod selH sel;simp only[List.filter_flatMap,List.map_flatMap,List.filter_map,List.map_map];rfl
variable (P : PlT) (M : Nat) (hM : M ≤ 200000) (hlo : 0 ≤ lo ∧ lo ≤ 100000) (hhi : 0 ≤ hi ∧ hi ≤ 100000) (hd : -1000000 ≤ d ∧ d ≤ 4000000)
 (oh:okT P.2.2.2.1 23) (om:okT P.2.2.2.2.1 59) (oc:okT P.2.2.2.2.2.1 59)
include hM hlo hhi hd oh om oc
theorem cW1 (i j:Nat) (a b:Int) (ha:0≤a∧a≤23) (hb:0≤b∧b≤59) (hj:j<P.2.2.2.2.1.length) (rest:List Int)
  (C:∀l:List Int,l.length≤M→dA.l3 d lo hi M a P.2.2.2.1 (P.2.2.2.1.length:Int) i P.2.2.2.2.1 (P.2.2.2.2.1.length:Int) ((j+1:Nat):Int) P l=some ((l++rest).take (M+1),(),())):
  ∀(n k:Nat),P.2.2.2.2.2.1.length-k=n→k≤P.2.2.2.2.2.1.length → ∀l:List Int,l.length≤M →
   dA.l5 d lo hi M a (3600*a+60*b) P.2.2.2.1 (P.2.2.2.1.length:Int) i P.2.2.2.2.1 (P.2.2.2.2.1.length:Int) j P.2.2.2.2.2.1 (P.2.2.2.2.2.1.length:Int) k P l=some ((l++(sel lo hi d a b (P.2.2.2.2.2.1.drop k)++rest)).take (M+1),(),()):=by
 have hlim:yC=17179869184:=rfl;have lh:=oh.2.2;have lm:=om.2.2;have lc:=oc.2.2;intro n
 induction n with
 | zero=>
  intro k hk hkl l hl;have e:k=P.2.2.2.2.2.1.length:=by omega
  subst e;have:=C l hl;rw[xA2,yA2]at this;rw[dA.l5_eq];simp(disch:=omega)only[ss];rw[this,vA2];rfl
 | succ n ih=>
  intro k hk hkl l hl;have hlt:k<P.2.2.2.2.2.1.length:=by omega
  have hs:=oc.2.1 _ (bI hlt);have ih':=ih (k+1) (by omega) (by omega);rw[xA2,yA2]at ih';rw[dA.l5_eq,eB2,vB 0 hlt];generalize P.2.2.2.2.2.1.getD k 0=s at hs ⊢;by_cases c1:3600*a+60*b+s<lo
  ·have e:sel lo hi d a b (s::P.2.2.2.2.2.1.drop (k+1))=sel lo hi d a b (P.2.2.2.2.2.1.drop (k+1)):=by unfold sel;rw[List.filter_cons_of_neg (by rw[dn (show ¬lo≤3600*a+60*b+s by omega)];simp)]
   rw[e];simp(disch:=omega)only[ss,dA.l6_eq];exact ih' l hl
  ·by_cases c2:3600*a+60*b+s≥hi
   ·have e:sel lo hi d a b (s::P.2.2.2.2.2.1.drop (k+1))=sel lo hi d a b (P.2.2.2.2.2.1.drop (k+1)):=by unfold sel;rw[List.filter_cons_of_neg (by rw[dn (show ¬3600*a+60*b+s<hi by omega)];simp)]
    rw[e];simp(disch:=omega)only[ss,dA.l6_eq];exact ih' l hl
   ·have e:sel lo hi d a b (s::P.2.2.2.2.2.1.drop (k+1))=(d*86400+(3600*a+60*b+s))::sel lo hi d a b (P.2.2.2.2.2.1.drop (k+1)):=by unfold sel;rw[List.filter_cons_of_pos (by rw[dp (show lo≤3600*a+60*b+s by omega),dp (show 3600*a+60*b+s<hi by omega)];rfl)];rfl
    rw[e];have ea:d*86400+(3600*a+60*b)+s=d*86400+(3600*a+60*b+s):=by omega
    have hlen:(l++[d*86400+(3600*a+60*b+s)]).length=l.length+1:=uD _ _;have eapp:∀x:List Int,l++((d*86400+(3600*a+60*b+s))::x++rest)=l++[d*86400+(3600*a+60*b+s)]++(x++rest):=fun x=>by simp
    rw[eapp];by_cases c3:l.length=M
    ·simp(disch:=omega)only[ss,dA.l6_eq,sJ.f_eq,ea,hlen,sA2,hlim];rw[pA1 _ _ _ (by rw[hlen,c3])]
    ·simp(disch:=omega)only[ss,dA.l6_eq,sJ.f_eq,ea,hlen,sA2,hlim];exact ih' _ (by rw[hlen];omega)
theorem uV1 (i:Nat) (a:Int) (ha:0≤a∧a≤23) (hi':i<P.2.2.2.1.length) (rest:List Int)
  (C:∀l:List Int,l.length≤M→dA.l1 d lo hi M P.2.2.2.1 (P.2.2.2.1.length:Int) ((i+1:Nat):Int) P l=some ((l++rest).take (M+1),(),())):
  ∀(n j:Nat),P.2.2.2.2.1.length-j=n→j≤P.2.2.2.2.1.length → ∀l:List Int,l.length≤M →
   dA.l3 d lo hi M a P.2.2.2.1 (P.2.2.2.1.length:Int) i P.2.2.2.2.1 (P.2.2.2.2.1.length:Int) j P l=some ((l++((P.2.2.2.2.1.drop j).flatMap (fun b=>sel lo hi d a b P.2.2.2.2.2.1)++rest)).take (M+1),(),()):=by
 have lh:=oh.2.2;have lm:=om.2.2;have lc:=oc.2.2;intro n
 induction n with
 | zero=>
  intro j hj hjl l hl;have e:j=P.2.2.2.2.1.length:=by omega
  subst e;have:=C l hl;rw[xA2,yA2]at this;rw[dA.l3_eq];simp(disch:=omega)only[ss];rw[this,vA2];rfl
 | succ n ih=>
  intro j hj hjl l hl;have hlt:j<P.2.2.2.2.1.length:=by omega
  have hb:=om.2.1 _ (bI hlt);have ih':=ih (j+1) (by omega) (by omega);have ih2:=ih';rw[xA2,yA2]at ih2;rw[dA.l3_eq,eB2,vB 0 hlt,gC2];generalize P.2.2.2.2.1.getD j 0=b at hb ⊢;by_cases c1:3600*a+60*b+59<lo
  ·rw[mY lo hi d a b _ (fun s hs=>by have:=oc.2.1 s hs;omega)];simp(disch:=omega)only[ss,dA.l4_eq];exact ih2 l hl
  ·by_cases c2:3600*a+60*b≥hi
   ·rw[mY lo hi d a b _ (fun s hs=>by have:=oc.2.1 s hs;omega)];simp(disch:=omega)only[ss,dA.l4_eq];exact ih2 l hl
   ·have h5:=cW1 lo hi d P M hM hlo hhi hd oh om oc i j a b ha hb hlt _ ih' P.2.2.2.2.2.1.length 0 (by omega) (oZ1 _) l hl;rw[yZ1,pA2]at h5;simp(disch:=omega)only[ss,dA.l4_eq];rw[h5,gA2]
theorem oV1 :∀(n i:Nat),P.2.2.2.1.length-i=n→i≤P.2.2.2.1.length → ∀l:List Int,l.length≤M →
   dA.l1 d lo hi M P.2.2.2.1 (P.2.2.2.1.length:Int) i P l=some ((l++(P.2.2.2.1.drop i).flatMap (selH lo hi d P.2.2.2.2.1 P.2.2.2.2.2.1)).take (M+1),(),()):=by
 have lh:=oh.2.2;have lm:=om.2.2;have lc:=oc.2.2;intro n
 induction n with
 | zero=>
  intro i hin hil l hl;have e:i=P.2.2.2.1.length:=by omega
  subst e;rw[dA.l1_eq];simp(disch:=omega)only[ss];rw[vA2,List.flatMap_nil,cA2,zZ1 (by omega)]
 | succ n ih=>
  intro i hin hil l hl;have hlt:i<P.2.2.2.1.length:=by omega
  have ha:=oh.2.1 _ (bI hlt);have ih':=ih (i+1) (by omega) (by omega);have ih2:=ih';rw[xA2,yA2]at ih2;rw[dA.l1_eq,eB2,vB 0 hlt,gC2];generalize P.2.2.2.1.getD i 0=a at ha ⊢
  have hnil:(∀x:Int,0≤x→x≤3599 → ¬(lo≤3600*a+x∧3600*a+x<hi))→selH lo hi d P.2.2.2.2.1 P.2.2.2.2.2.1 a=[]:=fun q=>by
   unfold selH;rw[List.flatMap_eq_nil_iff];intro b hb;refine mY lo hi d a b _ fun s hs=>?_
   have:=oc.2.1 s hs;have:=om.2.1 b hb;have:=q (60*b+s) (by omega) (by omega);omega
  by_cases c1:3600*a+3599<lo
  ·rw[hnil (fun x h1 h2=>by omega)];simp(disch:=omega)only[ss,dA.l2_eq];exact ih2 l hl
  ·by_cases c2:3600*a≥hi
   ·rw[hnil (fun x h1 h2=>by omega)];simp(disch:=omega)only[ss,dA.l2_eq];exact ih2 l hl
   ·have h3:=uV1 lo hi d P M hM hlo hhi hd oh om oc i a ha hlt _ ih' P.2.2.2.2.1.length 0 (by omega) (oZ1 _) l hl;rw[yZ1,pA2]at h3;simp(disch:=omega)only[ss,dA.l2_eq];exact h3
theorem eK1 :dA.f P d lo hi M ()=some ((dayL P.2.2.2.1 P.2.2.2.2.1 P.2.2.2.2.2.1 lo hi d).take (M+1),(),()):=by have h:=oV1 lo hi d P M hM hlo hhi hd oh om oc P.2.2.2.1.length 0 (by omega) (oZ1 _) [] (oZ1 _);rw[yZ1,pA2,lA2]at h;rw[dA.f_eq,uS1];exact h
end
theorem eW1 (P:PlT) (r:Rl) (s:Int) (F:Int→Bool) (pr:Int→Int) (h m c:List Int) (hP:PlanOK P r s F pr h m c) (lo hi B:Int) (M:Nat) (hM:M≤200000) (hlo:0≤lo∧lo≤100000) (hhi:0≤hi∧hi≤100000) (hB:B≤2932896):
  ∀(n:Nat) (d:Int),(B+1-d).toNat=n → -719162≤d → ∀l:List Int,l.length≤M+1→gB.l1 M lo hi B d P l=some ((l++setF F h m c lo hi n d).take (M+1),()):=by
 have hlim:yC=17179869184:=rfl;intro n
 induction n with
 | zero=>
  intro d hn hd l hl;rw[gB.l1_eq,dn (show ¬d≤B by omega),cond_false,gB.l2_eq,cond_false];show _=some ((l++[]).take (M+1),());rw[cA2,zZ1 hl]
 | succ n ih=>
  intro d hn hd l hl;have hdB:d≤B:=by omega
  rw[gB.l1_eq,dp hdB,cond_true,gB.l2_eq];by_cases c1:l.length=M+1
  ·rw[dn (show ¬(l.length:Int)≤M by omega),cond_false,pA1 _ _ _ c1]
  ·have hl':l.length≤M:=by omega
   rw[dp (show(l.length:Int)≤M by omega),cond_true,nB.f_eq,hP.fits d];have hw:w6 (d+1)=d+1:=wr (by omega) (by omega);have hwl:w6 ((M:Int)-(l.length:Int))=((M-l.length:Nat):Int):=by rw[wr (by omega) (by omega)];omega
   simp only[hZ1,hw,hwl];unfold setF
   cases hF:F d with
   | false=>
    rw[cond_false,if_neg (by simp)];exact ih (d+1) (by omega) (by omega) l hl
   | true=>
    have hday:=eK1 lo hi d P (M-l.length) (by omega) hlo hhi ⟨by omega,by omega⟩ (by rw[hP.eh];exact hP.oh) (by rw[hP.em];exact hP.om) (by rw[hP.ec];exact hP.oc);rw[hP.eh,hP.em,hP.ec]at hday;rw[cond_true,if_pos rfl,hday];have hlen:(l++(dayL h m c lo hi d).take (M-l.length+1)).length≤M+1:=by rw[lZ1,wZ1];omega
    rw[lZ1]at hlen;simp only[hZ1];rw[dp (by omega),cond_true,ih (d+1) (by omega) (by omega) _ (by rw[lZ1];exact hlen),rK1 _ _ _ _ hl']
theorem half {a b:Nat} (h:a+b<4611686018427387904):w6 (shrI .u64 (IntKind.u64.wrap (w6 ((a:Int)+(b:Int)))) 1)=(((a+b)/2:Nat):Int):=by
 rw[wr (x:=(a:Int)+(b:Int)) (by omega) (by omega),Go.IntWalk.u64_in ((a:Int)+(b:Int)) (by omega)];have e:shrI .u64 ((a:Int)+(b:Int)) 1=(((a+b)/2:Nat):Int):=by show Int.fdiv ((a:Int)+(b:Int)) (2 ^ (min (1:Int).toNat 64))=_;rw[show min (1:Int).toNat 64=1 from rfl,show(2:Int) ^ 1=2 from rfl,Int.fdiv_eq_ediv_of_nonneg _ (by decide)];omega
 rw[e,wr (by omega) (by omega)]
theorem sN1 (a b:Int):jH.f a b=some (decide (a<b),()):=by rw[jH.f_eq];simp(disch:=omega)only[ss,sG.f_eq,ne_eq,not_true_eq_false]
theorem sS1 (a:Int):iE.f a=some (false,()):=by rw[iE.f_eq];simp(disch:=omega)only[ss,ne_eq,not_true_eq_false]
theorem jY1 {l:List Int} (hl:l.length≤1000000) (hr:Rise l) (t:Int):∀(k a b:Nat),b-a≤k→a≤b→b≤l.length→(∀j,j<a→l.getD j 0<t)→(∀j,b≤j→j<l.length→t≤l.getD j 0) →
  ∃i:Nat,rA.l1 l t (l.length:Int) a b=some ((i:Int),decide (i<l.length∧l.getD i 0=t),())∧i≤l.length∧(∀j,j<i→l.getD j 0<t)∧(∀j,i≤j→j<l.length→t≤l.getD j 0):=by
 have done:∀a:Nat,a≤l.length→(∀j,j<a→l.getD j 0<t)→(∀j,a≤j→j<l.length→t≤l.getD j 0) → ∃i:Nat,rA.l1 l t (l.length:Int) a a=some ((i:Int),decide (i<l.length∧l.getD i 0=t),())∧i≤l.length∧(∀j,j<i→l.getD j 0<t)∧(∀j,i≤j→j<l.length→t≤l.getD j 0):=by
  intro a ha h1 h3;rw[rA.l1_eq];refine⟨a,?_,ha,h1,h3⟩;by_cases hc:a<l.length
  ·by_cases he:l.getD a 0=t
   ·rw[dp (show a<l.length∧l.getD a 0=t from⟨hc,he⟩)];simp(disch:=omega)only[ss]
   ·rw[dn (show ¬(a<l.length∧l.getD a 0=t)from fun q=>he q.2)];simp(disch:=omega)only[ss,sS1]
  ·rw[dn (show ¬(a<l.length∧l.getD a 0=t)from fun q=>hc q.1)];simp(disch:=omega)only[ss]
 intro k
 induction k with
 | zero=>
  intro a b hk hab hb h1 h3;have e:a=b:=by omega
  subst e;exact done a hb h1 h3
 | succ k ih=>
  intro a b hk hab hb h1 h3;by_cases he:a=b
  ·subst he;exact done a hb h1 h3
  ·rw[rA.l1_eq,half (by omega)];have hm1:a≤(a+b)/2:=by omega
   have hm2:(a+b)/2<b:=by omega
   generalize (a+b)/2=m at hm1 hm2;simp(disch:=omega)only[ss,sN1];by_cases hm:l.getD m 0<t
   ·simp(disch:=omega)only[ss];refine ih (m+1) b (by omega) (by omega) hb (fun j hj=>?_) h3;by_cases hjm:j=m
    ·subst hjm;exact hm
    ·have:=nL hr (show j<m by omega) (by omega);omega
   ·simp(disch:=omega)only[ss];refine ih a m (by omega) hm1 (by omega) h1 fun j hj1 hj2=>?_
    by_cases hjm:j=m
    ·subst hjm;omega
    ·have:=nL hr (show m<j by omega) hj2;omega
theorem fR1 {l:List Int} (hl:l.length≤1000000) (hr:Rise l) (t:Int):∃i:Nat,rA.f l t=some ((i:Int),decide (i<l.length∧l.getD i 0=t),())∧i≤l.length∧(t∈l→i<l.length∧l.getD i 0=t):=by
 obtain⟨i,h1,h2,h3,h4⟩:=jY1 hl hr t l.length 0 l.length (by omega) (oZ1 _) (tZ1 _) (fun j hj=>absurd hj (by omega)) (fun j h1 h2=>absurd h1 (by omega));rw[rA.f_eq];refine⟨i,h1,h2,fun hm=>?_⟩;obtain⟨j,hj,e⟩:=qW hm;have hij:i≤j:=by
  refine Classical.byContradiction fun c=>?_
  have:=h3 j (by omega);omega
 by_cases c:i=j
 ·subst c;exact⟨hj,e⟩
 ·have:=nL hr (show i<j by omega) hj;have:=h4 i (tZ1 _) (by omega);omega
section
variable {P : PlT} {r : Rl} {s : Int} {F : Int → Bool} {pr : Int → Int} {h m c : List Int} (hP : PlanOK P r s F pr h m c)
abbrev inP (iv s:Int) (pr:Int→Int) (t:Int):Prop:=Int.tmod (pr t-pr s) iv=0
def rawP (iv s:Int) (F:Int→Bool) (pr:Int→Int) (h m c:List Int) (t:Int):Prop:=inT t∧t%86400∈tod h m c∧inP iv s pr t∧F (t/86400)=true
include hP
theorem cF1 (t:Int) (ht:inT t):dD.f P t=some (decide (inP r.2.1 s pr t),()):=by have hv:=hP.iv;rw[dD.f_eq,hP.period t ht,hP.er];simp(disch:=omega)only[ss]
theorem vS1 (t:Int) (ht:inT t):∃G:List Int,Rise G∧(∀x,x∈G↔rawP r.2.1 s F pr h m c x∧pr x=pr t) ∧
  ∀M:Nat,M≤200000→gB.f P t M=some (G.take (M+1),()):=by
 have hd:=sK ht;have hD:=(xF t (by unfold inT at ht;omega) (by unfold inT at ht;omega)).1;have hI:=cF1 hP t ht;obtain⟨A,B,g1,g2,g3,g4⟩:=hP.days t ht;by_cases c1:inP r.2.1 s pr t
 ·rw[dp c1]at hI;have hspan:∃lo hi,fF.f P t=some (lo,hi,())∧(0≤lo∧lo≤100000)∧(0≤hi∧hi≤100000) ∧
    ∀x,inT x→(pr x=pr t↔(A≤x/86400∧x/86400≤B)∧lo≤x%86400∧x%86400<hi):=by
   have hs1:0≤t%86400∧t%86400≤86399:=by omega
   rw[fF.f_eq,hD,hP.er];by_cases f5:r.1=5
   ·have e:Int.tmod (t%86400) 3600=t%86400%3600:=tmn hs1.1 _;refine⟨t%86400-t%86400%3600,t%86400-t%86400%3600+3600,by simp(disch:=omega)only[ss,e],by omega,by omega,fun x hx=>?_⟩;have a:=g4 (by omega);rw[hP.p5 f5 t ht,hP.p5 f5 x hx];constructor <;> intro q <;> omega
   ·by_cases f6:r.1=6
    ·have e:Int.tmod (t%86400) 60=t%86400%60:=tmn hs1.1 _;refine⟨t%86400-t%86400%60,t%86400-t%86400%60+60,by simp(disch:=omega)only[ss,e],by omega,by omega,fun x hx=>?_⟩;have a:=g4 (by omega);rw[hP.p6 f6 t ht,hP.p6 f6 x hx];constructor <;> intro q <;> omega
    ·by_cases f7:r.1=7
     ·refine⟨t%86400,t%86400+1,by simp(disch:=omega)only[ss],by omega,by omega,fun x hx=>?_⟩;have a:=g4 (by omega);rw[hP.p7 f7 t ht,hP.p7 f7 x hx];constructor <;> intro q <;> omega
     ·refine⟨0,86400,by simp(disch:=omega)only[ss],by omega,by omega,fun x hx=>?_⟩;rw[g3 (by have:=hP.fr;omega) x hx];constructor <;> intro q <;> omega
  obtain⟨lo,hi,s1,s2,s3,s4⟩:=hspan;refine⟨setF F h m c lo hi (B+1-A).toNat A,bA1 hP.oh.1 hP.om.1 hP.oc.1 hP.oh.2.1 hP.om.2.1 hP.oc.2.1 lo hi _ _,fun x=>?_,fun M hM=>?_⟩
  ·rw[sW hP.oh.2.1 hP.om.2.1 hP.oc.2.1];constructor
   ·rintro⟨q1,q2,q3,q4,q5,q6⟩;have hx:inT x:=by unfold inT;omega
    have hpr:=(s4 x hx).2 ⟨⟨by omega,by omega⟩,q5,q6⟩;refine⟨⟨hx,q4,?_,q3⟩,hpr⟩;unfold inP at c1 ⊢;rw[hpr];exact c1
   ·rintro⟨⟨hx,q4,_,q3⟩,hpr⟩;have:=(s4 x hx).1 hpr;exact⟨by omega,by omega,q3,q4,this.2⟩
  ·rw[gB.f_eq,hI];simp only[hZ1,mZ1,cond_false];rw[s1];simp only[hZ1];rw[g1];simp only[hZ1];exact eW1 P r s F pr h m c hP lo hi B M hM s2 s3 (by omega) _ A rfl (by omega) [] (oZ1 _)
 ·rw[dn c1]at hI;refine⟨[],tF,fun x=>?_,fun M hM=>?_⟩
  ·constructor
   ·intro q;exact absurd q (by simp)
   ·rintro⟨⟨_,_,q,_⟩,e⟩;unfold inP at c1 q;rw[e]at q;exact absurd q c1
  ·rw[gB.f_eq,hI];rfl
omit hP
def cI1 (po:List Int) (l:List Int) (t:Int):Prop:=l.length≤100000 ∧ ∃i:Nat,i<l.length∧l.getD i 0=t∧((i:Int)+1∈po∨(i:Int)-(l.length:Int)∈po)
include hP
theorem eH1 (t:Int) (l:List Int) (hr:Rise l) (hl:l.length≤1000000):tD.f P t l=some (ind (cI1 r.2.2.2.2.2.2.2.2.2.2.2.2.2.2.1 l t),()):=by
 have lp:=hP.lp;obtain⟨i,h1,h2,h3⟩:=fR1 hl hr t;rw[tD.f_eq,h1,hP.er];generalize r.2.2.2.2.2.2.2.2.2.2.2.2.2.2.1=po at lp ⊢;simp only[hZ1];by_cases c1:i<l.length∧l.getD i 0=t
 ·rw[dp c1,cond_true];by_cases c2:l.length≤100000
  ·have w1:w6 ((i:Int)+1)=(i:Int)+1:=wr (by omega) (by omega);have w2:w6 ((i:Int)-(l.length:Int))=(i:Int)-(l.length:Int):=wr (by omega) (by omega);rw[dp (show(l.length:Int)≤100000 by omega),cond_true,w1,w2,mE po _ (by omega),mE po _ (by omega)];simp only[hZ1];by_cases c3:(i:Int)+1∈po
   ·rw[dp c3,cond_true,tT1 ⟨c2,i,c1.1,c1.2,.inl c3⟩]
   ·rw[dn c3,cond_false];by_cases c4:(i:Int)-(l.length:Int)∈po
    ·rw[dp c4,tT1 ⟨c2,i,c1.1,c1.2,.inr c4⟩]
    ·rw[dn c4,pN1];rintro⟨_,j,j1,j2,j3⟩;have e:i=j:=dO1 hr c1.1 j1 (by rw[c1.2,j2]);subst e;rcases j3 with j3 | j3
     ·exact c3 j3
     ·exact c4 j3
  ·rw[dn (show ¬(l.length:Int)≤100000 by omega),cond_false,pN1 (fun q=>c2 q.1)]
 ·rw[dn c1,cond_false,pN1];rintro⟨_,j,j1,j2,_⟩;refine c1 (h3 ?_);rw[←j2];exact bI j1
end
def belP (iv un:Int) (en:Bool) (po:List Int) (s:Int) (F:Int→Bool) (pr:Int→Int) (h m c:List Int) (t:Int):Prop:=
 rawP iv s F pr h m c t∧s≤t∧(en=true→t≤un) ∧
  (po=[] ∨ ∃G:List Int,Rise G∧(∀x,x∈G↔rawP iv s F pr h m c x∧pr x=pr t)∧cI1 po (G.take 100001) t)
section
variable {P : PlT} {r : Rl} {s : Int} {F : Int → Bool} {pr : Int → Int} {h m c : List Int} (hP : PlanOK P r s F pr h m c) (hMk : eD.f r s = some (P, true, ()))
include hP hMk
end
section
variable {r : Rl} {s : Int} {P : PlT} (hMk : eD.f r s = some (P, false, ()))
include hMk
end
section
variable {f iv ct un wkst : Int} {en : Bool} {mo we yd md : List Int} {dy : List Dy} {ho mi se po : List Int} {P : PlT} {s : Int} {F : Int → Bool} {pr : Int → Int} {h m c : List Int} (hP : PlanOK P (f, iv, ct, un, wkst, en, mo, we, yd, md, dy, ho, mi, se, po, ()) s F pr h m c) (hMk : eD.f (f, iv, ct, un, wkst, en, mo, we, yd, md, dy, ho, mi, se, po, ()) s = some (P, true, ()))
include hP hMk
end
section
variable (W : Int → Prop)
noncomputable def memL (a b:Int):List Int:=((List.range (b-a).toNat).map (fun(j:Nat)=>a+(j:Int))).filter fun x=>ind (W x)
theorem oG {a b x:Int}:x∈memL W a b↔W x∧a≤x∧x<b:=by
 unfold memL;rw[oB2,bA2,yO];constructor
 ·rintro⟨⟨j,hj,e⟩,h⟩;have:=List.mem_range.1 hj;exact⟨h,by omega,by omega⟩
 ·rintro⟨h,h1,h2⟩;exact⟨⟨(x-a).toNat,List.mem_range.2 (by omega),by omega⟩,h⟩
theorem oJ (a b:Int):Rise (memL W a b):=by unfold memL;refine List.Pairwise.sublist List.filter_sublist ?_;rw[List.pairwise_map];exact List.Pairwise.imp (fun {i j} h=>by omega) List.pairwise_lt_range
theorem xC1 {L:List Int} {a b:Int} (hr:Rise L) (h:∀x,x∈L↔W x∧a≤x∧x<b):L=memL W a b:=
 qI hr (oJ W a b) fun x=>by rw[h,oG]
theorem zH1 {a b c:Int} (h1:a≤b) (h2:b≤c):memL W a b++memL W b c=memL W a c:=by
 refine xC1 W (tL.2 ⟨oJ W a b,oJ W b c,fun x hx y hy=>?_⟩) fun x=>?_
 ·have:=(oG W).1 hx;have:=(oG W).1 hy;omega
 ·rw[sZ1,oG,oG];constructor
  ·rintro(⟨q,_,_⟩ | ⟨q,_,_⟩) <;> exact⟨q,by omega,by omega⟩
  ·rintro⟨q,_,_⟩;by_cases c1:x<b
   ·exact .inl ⟨q,by omega,c1⟩
   ·exact .inr ⟨q,by omega,by omega⟩
end
section
variable (W : Int → Prop) (fr en : Int)
noncomputable def memC (a b:Int):List Int:=memL W (if fr≤a then a else fr) (if b≤en then b else en)
theorem gH {a b x:Int}:x∈memC W fr en a b↔W x∧(a≤x∧x<b)∧fr≤x∧x<en:=by
 unfold memC;rw[oG];by_cases c1:fr≤a
 ·rw[if_pos c1];by_cases c2:b≤en
  ·rw[if_pos c2];exact⟨fun h=>⟨h.1,⟨by omega,by omega⟩,by omega,by omega⟩,fun h=>⟨h.1,by omega,by omega⟩⟩
  ·rw[if_neg c2];exact⟨fun h=>⟨h.1,⟨by omega,by omega⟩,by omega,by omega⟩,fun h=>⟨h.1,by omega,by omega⟩⟩
 ·rw[if_neg c1];by_cases c2:b≤en
  ·rw[if_pos c2];exact⟨fun h=>⟨h.1,⟨by omega,by omega⟩,by omega,by omega⟩,fun h=>⟨h.1,by omega,by omega⟩⟩
  ·rw[if_neg c2];exact⟨fun h=>⟨h.1,⟨by omega,by omega⟩,by omega,by omega⟩,fun h=>⟨h.1,by omega,by omega⟩⟩
theorem hJ (a b:Int):Rise (memC W fr en a b):=oJ W _ _
theorem iS {L:List Int} {a b:Int} (hr:Rise L) (h:∀x,x∈L↔W x∧(a≤x∧x<b)∧fr≤x∧x<en):L=memC W fr en a b:=
 qI hr (hJ W fr en a b) fun x=>by rw[h,gH]
theorem bO {a b c:Int} (h1:a≤b) (h2:b≤c):memC W fr en a b++memC W fr en b c=memC W fr en a c:=by
 refine iS W fr en (tL.2 ⟨hJ W fr en a b,hJ W fr en b c,fun x hx y hy=>?_⟩) fun x=>?_
 ·have:=(gH W fr en).1 hx;have:=(gH W fr en).1 hy;omega
 ·rw[sZ1,gH,gH];constructor
  ·rintro(⟨q,q1,q2⟩ | ⟨q,q1,q2⟩) <;> exact⟨q,⟨by omega,by omega⟩,q2⟩
  ·rintro⟨q,q1,q2⟩;by_cases c1:x<b
   ·exact .inl ⟨q,⟨by omega,c1⟩,q2⟩
   ·exact .inr ⟨q,⟨by omega,by omega⟩,q2⟩
def inW (x:Int):Bool:=decide (fr≤x)&&decide (x<en)
theorem iR {L:List Int} {a b:Int} (hr:Rise L) (h:∀x,x∈L↔W x∧a≤x∧x<b):L.filter (inW fr en)=memC W fr en a b:=by
 refine iS W fr en (List.Pairwise.sublist List.filter_sublist hr) fun x=>?_
 unfold inW;rw[oB2,h,iZ1,decide_eq_true_eq,decide_eq_true_eq];exact⟨fun q=>⟨q.1.1,q.1.2,q.2⟩,fun q=>⟨⟨q.1,q.2.1⟩,q.2.2⟩⟩
theorem zJ {W':Int→Prop} {a b a' b':Int} (h:∀x,fr≤x→x<en→(W x∧a≤x∧x<b↔W' x∧a'≤x∧x<b')):memC W fr en a b=memC W' fr en a' b':=by
 refine iS W' fr en (hJ W fr en a b) fun x=>?_
 rw[gH];constructor
 ·rintro⟨q,q1,q2⟩;have:=(h x q2.1 q2.2).1 ⟨q,q1⟩;exact⟨this.1,this.2,q2⟩
 ·rintro⟨q,q1,q2⟩;have:=(h x q2.1 q2.2).2 ⟨q,q1⟩;exact⟨this.1,this.2,q2⟩
theorem zF {a b:Int} (h:∀x,fr≤x→x<en→a≤x→x<b → ¬W x):memC W fr en a b=[]:=
 (iS W fr en tF fun x=>⟨fun q=>absurd q (by simp),fun q=>absurd q.1 (h x q.2.2.1 q.2.2.2 q.2.1.1 q.2.1.2)⟩).symm
theorem oZ :memC W fr en fr en=memL W fr en:=by unfold memC;rw[if_pos (iB2 _),if_pos (iB2 _)]
theorem lZ {a:Int} {l:List Int} {lo hi a1 a2:Int} (q:Int→Int) (hr:Rise (a::l)) (hq:∀x y,x≤y→q x≤q y) (ha:∀x,W x→(lo≤x∧x<hi∧q x=a↔a1≤x∧x<a2)):
  memC W fr en a1 a2++memC (fun x=>W x∧q x∈l) fr en lo hi=memC (fun x=>W x∧q x∈a::l) fr en lo hi:=by
 have hr:=wD.1 hr;refine iS _ fr en (tL.2 ⟨hJ W fr en _ _,hJ _ fr en _ _,fun x hx y hy=>?_⟩) fun x=>?_
 ·have h1:=(gH W fr en).1 hx;have h2:=(gH _ fr en).1 hy;have h3:=(ha x h1.1).2 h1.2.1;have h4:=hr.1 _ h2.1.2;refine Classical.byContradiction fun c=>?_
  have:=hq y x (by omega);omega
 ·rw[sZ1,gH,gH,pZ1];constructor
  ·rintro(⟨h,h1,h2⟩ | ⟨⟨h,h0⟩,h1,h2⟩)
   ·have:=(ha x h).2 h1;exact⟨⟨h,.inl this.2.2⟩,⟨this.1,this.2.1⟩,h2⟩
   ·exact⟨⟨h,.inr h0⟩,h1,h2⟩
  ·rintro⟨⟨h,h0⟩,h1,h2⟩;rcases h0 with h0 | h0
   ·exact .inl ⟨h,(ha x h).1 ⟨h1.1,h1.2,h0⟩,h2⟩
   ·exact .inr ⟨⟨h,h0⟩,h1,h2⟩
end
noncomputable def nM (po l:List Int):List Int:=if po=[]then l else l.filter fun x=>ind (cI1 po l x)
def picP (iv:Int) (po:List Int) (s:Int) (F:Int→Bool) (pr:Int→Int) (h m c:List Int) (t:Int):Prop:=
 rawP iv s F pr h m c t∧(po=[] ∨ ∃G:List Int,Rise G∧(∀x,x∈G↔rawP iv s F pr h m c x∧pr x=pr t)∧cI1 po (G.take 100001) t)
theorem iJ1 {iv un:Int} {en:Bool} {po:List Int} {s:Int} {F:Int→Bool} {pr:Int→Int} {h m c:List Int} {t:Int}:belP iv un en po s F pr h m c t↔picP iv po s F pr h m c t∧s≤t∧(en=true→t≤un):=
 ⟨fun⟨a,b,c,d⟩=>⟨⟨a,d⟩,b,c⟩,fun⟨⟨a,d⟩,b,c⟩=>⟨a,b,c,d⟩⟩
theorem bP {po l:List Int} (h:Rise l):Rise (nM po l):=by
 unfold nM;split
 ·exact h
 ·exact List.Pairwise.sublist List.filter_sublist h
theorem kR {iv:Int} {po:List Int} {s:Int} {F:Int→Bool} {pr:Int→Int} {h m c:List Int} {a b:Int} {G:List Int} (hG:Rise G) (hm:∀x,x∈G↔rawP iv s F pr h m c x∧a≤x∧x<b)
  (hp:∀x y,inT x→inT y→a≤x→x<b→(pr y=pr x↔a≤y∧y<b)) (hlen:po=[]→G.length≤100001) (x:Int):x∈nM po (G.take 100001)↔picP iv po s F pr h m c x∧a≤x∧x<b:=by
 have hsame:∀x,inT x→a≤x→x<b → ∀y,y∈G↔rawP iv s F pr h m c y∧pr y=pr x:=fun x hx h1 h2 y=>by
  rw[hm];constructor
  ·rintro⟨q,q1⟩;exact⟨q,(hp x y hx q.1 h1 h2).2 q1⟩
  ·rintro⟨q,q1⟩;exact⟨q,(hp x y hx q.1 h1 h2).1 q1⟩
 unfold nM picP;by_cases cp:po=[]
 ·rw[if_pos cp,zZ1 (hlen cp),hm];exact⟨fun q=>⟨⟨q.1,.inl cp⟩,q.2⟩,fun q=>⟨q.1.1,q.2⟩⟩
 ·rw[if_neg cp,oB2,yO];constructor
  ·rintro⟨q,q1⟩;have q2:=(hm x).1 (pC2 q);exact⟨⟨q2.1,.inr ⟨G,hG,hsame x q2.1.1 q2.2.1 q2.2.2,q1⟩⟩,q2.2⟩
  ·rintro⟨⟨q,q1⟩,q2⟩;rcases q1 with q1 | ⟨G',g1,g2,g3⟩
   ·exact absurd q1 cp
   ·have e:G'=G:=qI g1 hG fun y=>by rw[g2,hsame x q.1 q2.1 q2.2]
    subst e;refine⟨?_,g3⟩;obtain⟨_,i,i1,i2,_⟩:=g3;rw[←i2];exact bI i1
theorem rT1 {P:PlT} {L:List Int} (p:Int→Bool) (hl:L.length≤1000000) (hp:∀x,tD.f P x L=some (p x,())):∀(n i:Nat),L.length-i=n→i≤L.length → ∀acc:List Int,acc.length≤i →
  lB.l1 L L (L.length:Int) i P acc=some (acc++(L.drop i).filter p,()):=by
 have hlim:yC=17179869184:=rfl;intro n
 induction n with
 | zero=>
  intro i hn hi acc ha;have e:i=L.length:=by omega
  subst e;rw[lB.l1_eq];simp(disch:=omega)only[ss];rw[vA2,List.filter_nil,cA2]
 | succ n ih=>
  intro i hn hi acc ha;have hlt:i<L.length:=by omega
  rw[lB.l1_eq,eB2,vB 0 hlt,hp];generalize L.getD i 0=x
  cases hx:p x with
  | true=>
   have ih':=ih (i+1) (by omega) (by omega) (acc++[x]) (by rw[uD];omega);rw[xA2,yA2]at ih';rw[List.filter_cons_of_pos hx];simp(disch:=omega)only[ss,sA2,hlim];rw[ih',gA2];rfl
  | false=>
   have ih':=ih (i+1) (by omega) (by omega) acc (by omega);rw[xA2,yA2]at ih';rw[List.filter_cons_of_neg (by rw[hx];simp)];simp(disch:=omega)only[ss];exact ih'
theorem oW {P:PlT} {r:Rl} {s:Int} {F:Int→Bool} {pr:Int→Int} {h m c:List Int} (hP:PlanOK P r s F pr h m c) {L:List Int} (hr:Rise L) (hl:L.length≤1000000):
  lB.f P L=some (nM r.2.2.2.2.2.2.2.2.2.2.2.2.2.2.1 L,()):=by
 have lp:=hP.lp;have hpk:=fun x=>eH1 hP x L hr hl
 rw[lB.f_eq,hP.er];generalize r.2.2.2.2.2.2.2.2.2.2.2.2.2.2.1=po at lp hpk ⊢;unfold nM;by_cases cp:po=[]
 ·rw[if_pos cp,dp (show(po.length:Int)=0 by rw[cp];rfl),cond_true]
 ·have:=mH.1 cp;have hl1:=rT1 _ hl hpk L.length 0 (by omega) (oZ1 _) [] (oZ1 _);rw[yZ1,pA2,lA2]at hl1;rw[if_neg cp,dn (show ¬(po.length:Int)=0 by omega),cond_false,hl1]
section
variable {σ : Type} (yes : σ → Int → σ × Bool)
def run :σ→List Int→σ×Bool
 | s,[]=>(s,true)
 | s,x::l=>if(yes s x).2=true then run (yes s x).1 l else((yes s x).1,false)
theorem bQ (s:σ) (x:Int) (l:List Int):run yes s (x::l)=if(yes s x).2=true then run yes (yes s x).1 l else((yes s x).1,false):=rfl
theorem bD1 :∀(s:σ) (a b:List Int),run yes s (a++b)=if(run yes s a).2=true then run yes (run yes s a).1 b else((run yes s a).1,false)
 | s,[],b=>rfl
 | s,x::a,b=>by
  rw[List.cons_append,bQ,bQ];by_cases c:(yes s x).2=true
  ·rw[if_pos c,if_pos c,bD1 (yes s x).1 a b]
  ·rw[if_neg c,if_neg c,if_neg (by simp)]
theorem kT1 (s:σ):run yes s []=(s,true):=rfl
end
def yesF (M:Int) (l:List Int) (t:Int):List Int×Bool:=(l++[t],decide (((l++[t]).length:Int)<M))
theorem tW1 (M:Nat):∀(X l:List Int),l.length<M→run (yesF M) l X=((l++X).take M,decide ((l++X).length<M))
 | [],l,h=>by rw[kT1,cA2,zZ1 (by omega),dp h]
 | x::X,l,h=>by
  rw[bQ];have e:l++x::X=(l++[x])++X:=by simp
  have hl:(l++[x]).length=l.length+1:=uD l x;show(if decide (((l++[x]).length:Int)<M)=true then run (yesF M) (l++[x]) X else(l++[x],false))=_;rw[hl];by_cases c:l.length+1<M
  ·rw[dp (show((l.length+1:Nat):Int)<M by omega),if_pos rfl,tW1 M X (l++[x]) (by omega),e]
  ·rw[dn (show ¬((l.length+1:Nat):Int)<M by omega),if_neg (by simp),e,mB2 (by omega),zZ1 (by omega),dn];rw[lZ1];omega
theorem eQ :∀{l:List Int},Rise l → ∀{a b:Int},(∀x,x∈l→a≤x∧x≤b)→l.length≤(b+1-a).toNat
 | [],_,_,_,_=>oZ1 _
 | x::l,hr,a,b,h=>by
  have h0:=h x (nZ1 ..)
  have:=eQ (wD.1 hr).2 (a:=x+1) (b:=b) fun y hy=>by have:=h y (jZ1 _ hy);have:=(wD.1 hr).1 y hy;omega
  rw[hA2];omega
theorem xD1 {h m c:List Int} (oh:okT h 23) (om:okT m 59) (oc:okT c 59) (lo hi d:Int):(dayL h m c lo hi d).length≤86400:=by
 have:=eQ (lT oh.1 om.1 oc.1 om.2.1 oc.2.1 lo hi d) (a:=d*86400) (b:=d*86400+86399) fun x hx=>by have:=(gN oh.2.1 om.2.1 oc.2.1 lo hi d x).1 hx;omega
 omega
theorem qT (po l:List Int):(nM po l).length≤l.length:=by
 unfold nM;split
 ·exact tZ1 _
 ·exact List.length_filter_le _ _
def minL (t:Int) (c:List Int):List Int:=c.map fun s=>t+s
def nB1 (t:Int) (m c:List Int):List Int:=m.flatMap fun b=>minL (t+60*b) c
theorem aN {t x:Int} {c:List Int}:x∈minL t c↔x-t∈c:=by
 unfold minL;rw[bA2];constructor
 ·rintro⟨s,hs,e⟩;rw[show x-t=s by omega];exact hs
 ·intro h;exact⟨_,h,by omega⟩
theorem sU {c:List Int} (rc:Rise c) (t:Int):Rise (minL t c):=kX rc _ fun x y h=>by omega
theorem yZ {t x:Int} {m c:List Int} (hc:inR c 59):x∈nB1 t m c↔(x-t)/60∈m∧(x-t)%60∈c:=by
 unfold nB1;rw[yB2];constructor
 ·rintro⟨b,hb,hx⟩;have hs:=aN.1 hx;have:=hc _ hs;have e1:(x-t)/60=b:=by omega
  have e2:(x-t)%60=x-(t+60*b):=by omega
  rw[e1,e2];exact⟨hb,hs⟩
 ·rintro⟨h1,h2⟩;refine⟨_,h1,aN.2 ?_⟩;rw[show x-(t+60*((x-t)/60))=(x-t)%60 by omega];exact h2
theorem mL {m c:List Int} (rm:Rise m) (rc:Rise c) (hc:inR c 59) (t:Int):Rise (nB1 t m c):=by refine bN rm (fun b hb=>sU rc _) ?_;intro b b' hb hb' hlt x hx y hy;have:=hc _ (aN.1 hx);have:=hc _ (aN.1 hy);omega
section
variable {P : PlT} {r : Rl} {s0 : Int} {F : Int → Bool} {pr : Int → Int} {h m c : List Int} (hP : PlanOK P r s0 F pr h m c)
include hP
theorem eR (t:Int):Rise (minL t c):=sU hP.oc.1 t
theorem tP1 (t:Int):(minL t c).length≤1000000:=by have:=hP.oc.2.2;unfold minL;rw[wA2];omega
theorem hB1 (t:Int):(nB1 t m c).length≤3600:=by
 have:=eQ (mL hP.om.1 hP.oc.1 hP.oc.2.1 t) (a:=t) (b:=t+3599) fun x hx=>by have⟨h1,h2⟩:=(yZ hP.oc.2.1).1 hx;have:=hP.om.2.1 _ h1;omega
 omega
theorem wL (d a x:Int) (hd: -719162≤d∧d≤2932896) (ha:a∈h) (hF:F d=true) (h1:d*86400+3600*a≤x) (h2:x<d*86400+3600*a+3600):
  rawP r.2.1 s0 F pr h m c x↔(x-(d*86400+3600*a))/60∈m∧(x-(d*86400+3600*a))%60∈c∧inP r.2.1 s0 pr x:=by
 have ha0:=hP.oh.2.1 a ha;unfold rawP;rw[cC1 hP.om.2.1 hP.oc.2.1,show x%86400/3600=a by omega,show x%86400/60%60=(x-(d*86400+3600*a))/60 by omega,show x%86400%60=(x-(d*86400+3600*a))%60 by omega,show x/86400=d by omega];constructor
 ·rintro⟨_,⟨_,q1,q2⟩,q3,_⟩;exact⟨q1,q2,q3⟩
 ·rintro⟨q1,q2,q3⟩;exact⟨by unfold inT;omega,⟨ha,q1,q2⟩,q3,hF⟩
theorem lS1 (d a:Int) (hd: -719162≤d∧d≤2932896) (ha:a∈h) (hF:F d=true) (c5:r.1=5):(nM r.2.2.2.2.2.2.2.2.2.2.2.2.2.2.1 (nB1 (d*86400+3600*a) m c)).length≤1000000∧Rise (nM r.2.2.2.2.2.2.2.2.2.2.2.2.2.2.1 (nB1 (d*86400+3600*a) m c)) ∧
  (inP r.2.1 s0 pr (d*86400+3600*a) → ∀x,x∈nM r.2.2.2.2.2.2.2.2.2.2.2.2.2.2.1 (nB1 (d*86400+3600*a) m c)↔picP r.2.1 r.2.2.2.2.2.2.2.2.2.2.2.2.2.2.1 s0 F pr h m c x∧d*86400+3600*a≤x∧x<d*86400+3600*a+3600):=by
 have ha0:=hP.oh.2.1 a ha;have hlen:=hB1 hP (d*86400+3600*a);have htT:inT (d*86400+3600*a):=by unfold inT;omega
 have hper:∀x,inT x→d*86400+3600*a≤x→x<d*86400+3600*a+3600→pr x=pr (d*86400+3600*a):=fun x hx h1 h2=>by rw[hP.p5 c5 x hx,hP.p5 c5 _ htT];omega
 refine⟨tB2 (qT _ _) (by omega),bP (mL hP.om.1 hP.oc.1 hP.oc.2.1 _),fun hin x=>?_⟩
 have:=kR (po:=r.2.2.2.2.2.2.2.2.2.2.2.2.2.2.1) (iv:=r.2.1) (s:=s0) (F:=F) (pr:=pr) (h:=h) (m:=m) (c:=c) (a:=d*86400+3600*a) (b:=d*86400+3600*a+3600) (mL hP.om.1 hP.oc.1 hP.oc.2.1 (d*86400+3600*a)) (fun y=>by
  rw[yZ hP.oc.2.1];constructor
  ·rintro⟨q1,q2⟩;have:=hP.om.2.1 _ q1;have hy:d*86400+3600*a≤y∧y<d*86400+3600*a+3600:=by omega
   refine⟨(wL hP d a y hd ha hF hy.1 hy.2).2 ⟨q1,q2,?_⟩,hy⟩;unfold inP at hin ⊢;rw[hper y (by unfold inT;omega) hy.1 hy.2];exact hin
  ·rintro⟨q,q1⟩;have:=(wL hP d a y hd ha hF q1.1 q1.2).1 q
   exact⟨this.1,this.2.1⟩) (fun x y hx hy h1 h2=>by
   rw[hP.p5 c5 x hx,hP.p5 c5 y hy]
   constructor <;> intro q <;> omega) (fun _=>by omega) x
 rw[zZ1 (by omega)]at this;exact this
theorem iQ1 (d a b:Int) (hd: -719162≤d∧d≤2932896) (ha:a∈h) (hb:b∈m) (hF:F d=true) (c6:r.1=6):(nM r.2.2.2.2.2.2.2.2.2.2.2.2.2.2.1 (minL (d*86400+3600*a+60*b) c)).length≤1000000∧Rise (nM r.2.2.2.2.2.2.2.2.2.2.2.2.2.2.1 (minL (d*86400+3600*a+60*b) c)) ∧
  (inP r.2.1 s0 pr (d*86400+3600*a+60*b) → ∀x,x∈nM r.2.2.2.2.2.2.2.2.2.2.2.2.2.2.1 (minL (d*86400+3600*a+60*b) c)↔picP r.2.1 r.2.2.2.2.2.2.2.2.2.2.2.2.2.2.1 s0 F pr h m c x∧d*86400+3600*a+60*b≤x∧x<d*86400+3600*a+60*b+60):=by
 have ha0:=hP.oh.2.1 a ha;have hb0:=hP.om.2.1 b hb;have hc60:=hP.oc.2.2;have hlen:(minL (d*86400+3600*a+60*b) c).length≤60:=by unfold minL;rw[wA2];exact hc60
 have htT:inT (d*86400+3600*a+60*b):=by unfold inT;omega
 refine⟨tB2 (qT _ _) (by omega),bP (eR hP _),fun hin x=>?_⟩
 have:=kR (po:=r.2.2.2.2.2.2.2.2.2.2.2.2.2.2.1) (iv:=r.2.1) (s:=s0) (F:=F) (pr:=pr) (h:=h) (m:=m) (c:=c) (a:=d*86400+3600*a+60*b) (b:=d*86400+3600*a+60*b+60) (eR hP (d*86400+3600*a+60*b)) (fun y=>by
  rw[aN];constructor
  ·intro q;have:=hP.oc.2.1 _ q;have hy:d*86400+3600*a+60*b≤y∧y<d*86400+3600*a+60*b+60:=by omega
   refine⟨(wL hP d a y hd ha hF (by omega) (by omega)).2 ⟨?_,?_,?_⟩,hy⟩
   ·rw[show(y-(d*86400+3600*a))/60=b by omega];exact hb
   ·rw[show(y-(d*86400+3600*a))%60=y-(d*86400+3600*a+60*b) by omega];exact q
   ·unfold inP at hin ⊢;rw[hP.p6 c6 y (by unfold inT;omega),show y/60=(d*86400+3600*a+60*b)/60 by omega,←hP.p6 c6 _ htT];exact hin
  ·rintro⟨q,q1⟩;have:=(wL hP d a y hd ha hF (by omega) (by omega)).1 q;rw[show y-(d*86400+3600*a+60*b)=(y-(d*86400+3600*a))%60 by omega]
   exact this.2.1) (fun x y hx hy h1 h2=>by
   rw[hP.p6 c6 x hx,hP.p6 c6 y hy]
   constructor <;> intro q <;> omega) (fun _=>by omega) x
 rw[zZ1 (by omega)]at this;exact this
theorem eS1 (t:Int) (ht:inT t) (cb:Bool) (hcb:cb=true↔r.2.2.2.2.2.2.2.2.2.2.2.2.2.2.1=[]∨(1:Int)∈r.2.2.2.2.2.2.2.2.2.2.2.2.2.2.1∨(-1:Int)∈r.2.2.2.2.2.2.2.2.2.2.2.2.2.2.1):∀(n:Nat) (x:Int),(60-x).toNat≤n→0≤x→x≤2000 → ∀acc:List Int,acc.length+(60-x).toNat≤60 →
  ∃L:List Int,lA.l1 t r.2.1 x P acc=some (acc++L,())∧Rise L ∧ ∀y,y∈L↔t+x≤y∧y<t+60∧r.2.1∣y-t-x∧y-t∈c∧cb=true:=by
 have hlim:yC=17179869184:=rfl;have hiv:=hP.iv;have lp:=hP.lp;have lc:=hP.oc.2.2;have he:=hP.er;have hec:=hP.ec
 have stop:∀x:Int,¬x<60 → ∀acc:List Int,∃L:List Int,lA.l1 t r.2.1 x P acc=some (acc++L,())∧Rise L ∧ ∀y,y∈L↔t+x≤y∧y<t+60∧r.2.1∣y-t-x∧y-t∈c∧cb=true:=fun x hx acc=>by refine⟨[],?_,tF,fun y=>⟨fun q=>absurd q (by simp),fun q=>by omega⟩⟩;rw[lA.l1_eq,dn hx,cond_false,cA2]
 have hcore:∀(x:Int) (acc:List Int),x<60→lA.l1 t r.2.1 x P acc=lA.l2 t r.2.1 x (decide (x∈c)&&cb) P acc:=fun x acc hx=>by
  rw[lA.l1_eq,dp hx,cond_true,hec,mE c x (by omega),he];simp only[hZ1];generalize r.2.2.2.2.2.2.2.2.2.2.2.2.2.2.1=po at hcb lp ⊢;by_cases c1:x∈c
  ·rw[dp c1,cond_true,Bool.true_and];by_cases c2:po=[]
   ·rw[dp (show(po.length:Int)=0 by rw[c2];rfl),cond_true,hcb.2 (.inl c2)]
   ·have:=mH.1 c2;rw[dn (show ¬(po.length:Int)=0 by omega),cond_false,mE po 1 (by omega),mE po (-1) (by omega)];simp only[hZ1];by_cases c3:(1:Int)∈po
    ·rw[dp c3,cond_true,hcb.2 (.inr (.inl c3))]
    ·rw[dn c3,cond_false];by_cases c4:(-1:Int)∈po
     ·rw[dp c4,hcb.2 (.inr (.inr c4))]
     ·rw[dn c4,show cb=false by
       cases q:cb with
       | false=>rfl
       | true=>
        rcases hcb.1 q with z | z | z
        ·exact absurd z c2
        ·exact absurd z c3
        ·exact absurd z c4]
  ·rw[dn c1,cond_false,Bool.false_and]
 unfold inT at ht;intro n
 induction n with
 | zero=>intro x hn h0 h1 acc ha;exact stop x (by omega) acc
 | succ n ih=>
  intro x hn h0 h1 acc ha;by_cases hx:x<60
  ·have w1:w6 (x+r.2.1)=x+r.2.1:=wr (by omega) (by omega);have w2:w6 (t+x)=t+x:=wr (by omega) (by omega)
   have hstep:∀y:Int,t+x≤y→r.2.1∣y-t-x→y=t+x∨(t+(x+r.2.1)≤y∧r.2.1∣y-t-(x+r.2.1)):=fun y hy hd=>by
    obtain⟨k,hk⟩:=hd;by_cases ck:k≤0
    ·left;have:r.2.1*k≤0:=Int.mul_nonpos_of_nonneg_of_nonpos (by omega) ck;omega
    ·right;have h3:r.2.1*1≤r.2.1*k:=Int.mul_le_mul_of_nonneg_left (by omega) (by omega);rw[Int.mul_one]at h3;refine⟨by omega,k-1,?_⟩;rw[Int.mul_sub,Int.mul_one];omega
   have hback:∀y:Int,r.2.1∣y-t-(x+r.2.1)→r.2.1∣y-t-x:=fun y ⟨k,hk⟩=>⟨k+1,by rw[Int.mul_add,Int.mul_one];omega⟩
   rw[hcore x acc hx];cases hq:(decide (x∈c)&&cb)with
   | true=>
    rw[iZ1,decide_eq_true_eq]at hq;obtain⟨L,g1,g2,g3⟩:=ih (x+r.2.1) (by omega) (by omega) (by omega) (acc++[t+x]) (by rw[uD];omega);refine⟨(t+x)::L,?_,wD.2 ⟨fun y hy=>?_,g2⟩,fun y=>?_⟩
    ·rw[lA.l2_eq,cond_true,w1,w2];simp(disch:=omega)only[ss,sA2,hlim];rw[g1,gA2];rfl
    ·have:=(g3 y).1 hy;omega
    ·rw[pZ1,g3];constructor
     ·rintro(e | ⟨q1,q2,q3,q4⟩)
      ·subst e;exact⟨iB2 _,by omega,⟨0,by omega⟩,by rw[show t+x-t=x by omega];exact hq.1,hq.2⟩
      ·exact⟨by omega,q2,hback y q3,q4⟩
     ·rintro⟨q1,q2,q3,q4⟩;rcases hstep y q1 q3 with e | e
      ·exact .inl e
      ·exact .inr ⟨e.1,q2,e.2,q4⟩
   | false=>
    obtain⟨L,g1,g2,g3⟩:=ih (x+r.2.1) (by omega) (by omega) (by omega) acc (by omega);refine⟨L,?_,g2,fun y=>?_⟩
    ·rw[lA.l2_eq,cond_false,w1];exact g1
    ·rw[g3];constructor
     ·rintro⟨q1,q2,q3,q4⟩;exact⟨by omega,q2,hback y q3,q4⟩
     ·rintro⟨q1,q2,q3,q4,q5⟩;rcases hstep y q1 q3 with e | e
      ·rw[e,show t+x-t=x by omega]at q4;rw[dp q4,q5]at hq;cases hq
      ·exact⟨e.1,q2,e.2,q4,q5⟩
  ·exact stop x hx acc
theorem oO1 (d a b:Int) (hd: -719162≤d∧d≤2932896) (ha:a∈h) (hb:b∈m) (hF:F d=true) (c7:r.1=7):
  ∃L:List Int,L.length≤1000000∧(Rise L ∧ ∀x,x∈L↔picP r.2.1 r.2.2.2.2.2.2.2.2.2.2.2.2.2.2.1 s0 F pr h m c x∧d*86400+3600*a+60*b≤x∧x<d*86400+3600*a+60*b+60)∧lA.f P (d*86400+3600*a+60*b)=some (L,()):=by
 have ha0:=hP.oh.2.1 a ha;have hb0:=hP.om.2.1 b hb;have hiv:=hP.iv;have hS:=hP.inS;have htT:inT (d*86400+3600*a+60*b):=by unfold inT;omega
 obtain⟨t,ht⟩:∃t,d*86400+3600*a+60*b=t:=⟨_,rfl⟩
 obtain⟨cb,hcb⟩:∃cb:Bool,cb=true↔r.2.2.2.2.2.2.2.2.2.2.2.2.2.2.1=[]∨(1:Int)∈r.2.2.2.2.2.2.2.2.2.2.2.2.2.2.1∨(-1:Int)∈r.2.2.2.2.2.2.2.2.2.2.2.2.2.2.1:=⟨ind _,yO⟩
 have hx0:0≤(s0-t)%r.2.1:=Int.emod_nonneg _ (by omega);have hx1:(s0-t)%r.2.1<r.2.1:=Int.emod_lt_of_pos _ (by omega);have htm:=Int.tmod_lt_of_pos (s0-t) (show 0<r.2.1 by omega);have htm2:=Int.lt_tmod_of_pos (s0-t) (show 0<r.2.1 by omega);unfold inT at htT hS;have hstart:Int.tmod (w6 (Int.tmod (w6 (s0-t)) r.2.1+r.2.1)) r.2.1=(s0-t)%r.2.1:=by rw[wr (x:=s0-t) (by omega) (by omega),wr (by omega) (by omega),Int.tmod_eq_emod_of_nonneg (by omega)];have e:=Int.mul_tdiv_add_tmod (s0-t) r.2.1;rw[show Int.tmod (s0-t) r.2.1+r.2.1=(s0-t)+r.2.1*(1-Int.tdiv (s0-t) r.2.1) by rw[Int.mul_sub,Int.mul_one];omega];exact Int.add_mul_emod_self_left _ _ _
 obtain⟨L,g1,g2,g3⟩:=eS1 hP t (by unfold inT;omega) cb hcb 60 ((s0-t)%r.2.1) (by omega) hx0 (by omega) [] (by simp;omega)
 have hlen:=eQ g2 (a:=t) (b:=t+59) fun y hy=>by have:=(g3 y).1 hy;omega
 rw[ht];refine⟨L,by omega,⟨g2,fun x=>?_⟩,?_⟩
 ·rw[g3];have hdiv:r.2.1∣s0-t-(s0-t)%r.2.1:=⟨(s0-t)/r.2.1,by have:=Int.mul_ediv_add_emod (s0-t) r.2.1;omega⟩
  have hkey:t≤x→x<t+60→(inP r.2.1 s0 pr x↔t+(s0-t)%r.2.1≤x∧r.2.1∣x-t-(s0-t)%r.2.1):=fun q1 q2=>by
   unfold inP;rw[hP.p7 c7 x (by unfold inT;omega),hP.p7 c7 s0 hP.inS,←Int.dvd_iff_tmod_eq_zero];constructor
   ·intro q;have q':r.2.1∣x-t-(s0-t)%r.2.1:=by have:=Int.dvd_add q hdiv;rw[show x-s0+(s0-t-(s0-t)%r.2.1)=x-t-(s0-t)%r.2.1 by omega]at this;exact this
    refine⟨?_,q'⟩;obtain⟨k,hk⟩:=q';by_cases ck:k<0
    ·have h3:r.2.1*k≤r.2.1*(-1):=Int.mul_le_mul_of_nonneg_left (by omega) (by omega);omega
    ·have:0≤r.2.1*k:=Int.mul_nonneg (by omega) (by omega);omega
   ·rintro⟨_,q⟩;have:=Int.dvd_sub q hdiv;rw[show x-t-(s0-t)%r.2.1-(s0-t-(s0-t)%r.2.1)=x-s0 by omega]at this;exact this
  have hraw:t≤x→x<t+60→(rawP r.2.1 s0 F pr h m c x↔x-t∈c∧inP r.2.1 s0 pr x):=fun q1 q2=>by rw[wL hP d a x hd ha hF (by omega) (by omega),show(x-(d*86400+3600*a))/60=b by omega,show(x-(d*86400+3600*a))%60=x-t by omega];exact⟨fun q=>q.2,fun q=>⟨hb,q⟩⟩
  have hpl:rawP r.2.1 s0 F pr h m c x→((r.2.2.2.2.2.2.2.2.2.2.2.2.2.2.1=[] ∨ ∃G:List Int,Rise G∧(∀y,y∈G↔rawP r.2.1 s0 F pr h m c y∧pr y=pr x)∧cI1 r.2.2.2.2.2.2.2.2.2.2.2.2.2.2.1 (G.take 100001) x)↔cb=true):=fun q=>by
   have hG:∀G:List Int,Rise G→(∀y,y∈G↔rawP r.2.1 s0 F pr h m c y∧pr y=pr x)→G=[x]:=fun G z1 z2=>by
    refine qI z1 (wD.2 ⟨fun y hy=>absurd hy (by simp),tF⟩) fun y=>?_
    rw[z2,iA2];constructor
    ·rintro⟨w,w1⟩;rw[hP.p7 c7 y w.1,hP.p7 c7 x q.1]at w1;exact w1
    ·intro w;subst w;exact⟨q,rfl⟩
   rw[hcb];constructor
   ·rintro(z | ⟨G,z1,z2,z3⟩)
    ·exact .inl z
    ·rw[hG G z1 z2]at z3;obtain⟨_,i,i1,i2,i3⟩:=z3;have:i=0:=by simpa using i1
     subst this;rcases i3 with i3 | i3
     ·exact .inr (.inl (by simpa using i3))
     ·exact .inr (.inr (by simpa using i3))
   ·rintro(z | z)
    ·exact .inl z
    ·refine .inr ⟨[x],wD.2 ⟨fun y hy=>absurd hy (by simp),tF⟩,fun y=>?_,?_⟩
     ·rw[iA2];constructor
      ·intro w;subst w;exact⟨q,rfl⟩
      ·rintro⟨w,w1⟩;rw[hP.p7 c7 y w.1,hP.p7 c7 x q.1]at w1;exact w1
     ·refine⟨by simp,0,by simp,rfl,?_⟩;rcases z with z | z
      ·exact .inl (by simpa using z)
      ·exact .inr (by simpa using z)
  unfold picP;constructor
  ·rintro⟨q1,q2,q3,q4,q5⟩;have hr:=(hraw (by omega) q2).2 ⟨q4,(hkey (by omega) q2).2 ⟨q1,q3⟩⟩;exact⟨⟨hr,(hpl hr).2 q5⟩,by omega,q2⟩
  ·rintro⟨⟨q,q1⟩,q2,q3⟩;have h1:=(hraw q2 q3).1 q;have h2:=(hkey q2 q3).1 h1.2;exact⟨h2.1,q3,h2.2,h1.1,(hpl q).1 q1⟩
 ·rw[lA.f_eq,hP.er,hP.es,hstart,dn (show ¬r.2.1=0 by omega),aA2,cond_true,cond_true];rw[lA2]at g1;exact g1
end
abbrev clA (K:Int) (l:List Int):(List Int×Unit)×(Int×Unit)×Unit:=((l,()),(K,()),())
abbrev yA :=yesF
def invA (K:Int) (l:List Int):Prop:=(l.length:Int)<K∧K≤100000
theorem yesA {K:Int} {l:List Int} (hi:invA K l) (x:Int):aG.f x (l,()) (K,())=some ((yA K l x).2,((yA K l x).1,()),(K,()),())∧((yA K l x).2=true→invA K (yA K l x).1):=by
 unfold invA at hi ⊢;have hlim:yC=17179869184:=rfl;constructor
 ·rw[aG.f_eq];simp(disch:=omega)only[ss,sA2,hlim];rfl
 ·intro h;exact⟨of_decide_eq_true h,hi.2⟩
section
variable {K fr en : Int}
theorem yO1 {L:List Int} (hl:L.length≤1000000):∀(n i:Nat),L.length-i=n→i≤L.length → ∀s:List Int,invA K s →
  ∃s' b,run (yA K) s ((L.drop i).filter (inW fr en))=(s',b)∧(b=true→invA K s')∧pA.l1 L (L.length:Int) (i:Int) fr en K s=some (b,(fr,()),(en,()),(clA K s',()),()):=by
 intro n
 induction n with
 | zero=>
  intro i hn hi s hs;have e:i=L.length:=by omega
  subst e;refine⟨s,true,by rw[vA2];rfl,fun _=>hs,?_⟩;rw[pA.l1_eq];simp(disch:=omega)only[ss]
 | succ n ih=>
  intro i hn hi s hs;have hlt:i<L.length:=by omega
  have ih':=ih (i+1) (by omega) (by omega);rw[xA2,yA2]at ih';rw[pA.l1_eq,eB2,vB 0 hlt];generalize L.getD i 0=x;by_cases c:fr≤x∧x<en
  ·have hin:inW fr en x=true:=by unfold inW;rw[dp c.1,dp c.2];rfl
   rw[List.filter_cons_of_pos hin,bQ];obtain⟨hy,hinv⟩:=yesA hs x
   cases hb:(yA K s x).2 with
   | true=>
    obtain⟨s',b,h1,h2,h3⟩:=ih' _ (hinv hb);refine⟨s',b,by rw[if_pos rfl];exact h1,h2,?_⟩;simp(disch:=omega)only[ss,hy,hb,pA.l2_eq];exact h3
   | false=>
    refine⟨_,false,by rw[if_neg (by simp)],(fun q=>by cases q),?_⟩;simp(disch:=omega)only[ss,hy,hb,pA.l2_eq]
  ·have hin:inW fr en x=false:=by
    cases q:inW fr en x with
    | false=>rfl
    | true=>
     unfold inW at q;rw[iZ1,decide_eq_true_eq,decide_eq_true_eq]at q;exact absurd q c
   rw[List.filter_cons_of_neg (by rw[hin];simp)];obtain⟨s',b,h1,h2,h3⟩:=ih' s hs;refine⟨s',b,h1,h2,?_⟩;by_cases c1:fr≤x
   ·simp(disch:=omega)only[ss,pA.l2_eq];exact h3
   ·simp(disch:=omega)only[ss,pA.l2_eq];exact h3
theorem qJ1 {L:List Int} (hl:L.length≤1000000) (s:List Int) (hs:invA K s):
  ∃s' b,run (yA K) s (L.filter (inW fr en))=(s',b)∧(b=true→invA K s')∧pA.f L (fr,()) (en,()) (clA K s,())=some (b,(fr,()),(en,()),(clA K s',()),()):=by
 have h:=yO1 (fr:=fr) (en:=en) hl L.length 0 (by omega) (oZ1 _) s hs;rw[yZ1,pA2]at h;rw[pA.f_eq];exact h
theorem uL {s s1 s2:List Int} {a b c:List Int} {q:Bool} (e:a++b=c) (h1:run (yA K) s a=(s1,true)) (h2:run (yA K) s1 b=(s2,q)):run (yA K) s c=(s2,q):=by rw[←e,bD1,h1,if_pos rfl,h2]
theorem jJ {s s1:List Int} {a b c:List Int} (e:a++b=c) (h1:run (yA K) s a=(s1,false)):run (yA K) s c=(s1,false):=by rw[←e,bD1,h1,if_neg (by simp)]
end
section
variable {P : PlT} {r : Rl} {s0 : Int} {F : Int → Bool} {pr : Int → Int} {h m c : List Int} (hP : PlanOK P r s0 F pr h m c) {K fr en : Int} (hfr : -63000000000 ≤ fr ∧ fr ≤ 300000000000) (hen : -63000000000 ≤ en ∧ en ≤ 300000000000)
include hP
theorem zS1 (W:Int→Prop) (A B hi E:Int) (hE:mm false B hi=E) (hEB:E≤B) (hA: -719162≤A) (hB:B≤2932896)
  (hday:∀d,A≤d→d≤B→F d=true→(dayL h m c 0 86400 d).filter (inW fr en)=memC W fr en (d*86400) ((d+1)*86400)) (hno:∀d,A≤d→d≤B→F d=false→memC W fr en (d*86400) ((d+1)*86400)=[]):
  ∀(n:Nat) (d:Int),(E+1-d).toNat=n→A≤d → ∀s:List Int,invA K s →
  ∃s' b,run (yA K) s (memC W fr en (d*86400) ((E+1)*86400))=(s',b)∧(b=true→invA K s')∧fA.l1 B hi d fr en K s P=some (b,((fr,()),(en,()),(clA K s',()),()),()):=by
 intro n
 induction n with
 | zero=>
  intro d hn hd s hs;refine⟨s,true,by rw[zF W fr en (fun x _ _ h1 h2=>by omega)];rfl,fun _=>hs,?_⟩;rw[fA.l1_eq,hE,dn (show ¬d≤E by omega),cond_false]
 | succ n ih=>
  intro d hn hd s hs;have hdE:d≤E:=by omega
  have hw:w6 (d+1)=d+1:=wr (by omega) (by omega);have hsp:=bO W fr en (a:=d*86400) (b:=(d+1)*86400) (c:=(E+1)*86400) (by omega) (by omega);rw[fA.l1_eq,hE,dp hdE,cond_true,nB.f_eq,hP.fits d];simp only[hZ1]
  cases hF:F d with
  | false=>
   rw[hno d hd (by omega) hF,lA2]at hsp;obtain⟨s',b,h1,h2,h3⟩:=ih (d+1) (by omega) (by omega) s hs;refine⟨s',b,by rw[←hsp];exact h1,h2,?_⟩;rw[cond_false,fA.l2_eq,cond_false,hw];exact h3
  | true=>
   have hdv:=eK1 0 86400 d P 100000 (by omega) (by omega) (by omega) (by omega) (by rw[hP.eh];exact hP.oh) (by rw[hP.em];exact hP.om) (by rw[hP.ec];exact hP.oc);rw[hP.eh,hP.em,hP.ec,show((100000:Nat):Int)=100000 from rfl,zZ1 (tB2 (xD1 hP.oh hP.om hP.oc 0 86400 d) (by decide))]at hdv;obtain⟨s1,b1,g1,g2,g3⟩:=qJ1 (K:=K) (fr:=fr) (en:=en) (L:=dayL h m c 0 86400 d) (tB2 (xD1 hP.oh hP.om hP.oc 0 86400 d) (by decide)) s hs;rw[hday d hd (by omega) hF]at g1;rw[cond_true,hdv];simp only[hZ1];rw[g3];simp only[hZ1]
   cases b1 with
   | false=>
    refine⟨s1,false,jJ hsp g1,(fun q=>by cases q),?_⟩;rw[fA.l2_eq,aA2,cond_true]
   | true=>
    obtain⟨s',b,h1,h2,h3⟩:=ih (d+1) (by omega) (by omega) s1 (g2 rfl);refine⟨s',b,uL hsp g1 h1,h2,?_⟩;rw[fA.l2_eq,mZ1,cond_false,hw];exact h3
include hfr hen
theorem perA (t A B:Int) (ht:inT t) (hA: -719162≤A) (hB:B≤2932896) (hAB:A≤t/86400∧t/86400≤B) (hp:∀x,inT x→(pr x=pr t↔A≤x/86400∧x/86400≤B)) (hin:inP r.2.1 s0 pr t) (s:List Int) (hs:invA K s):
  ∃s' b,run (yA K) s (memC (picP r.2.1 r.2.2.2.2.2.2.2.2.2.2.2.2.2.2.1 s0 F pr h m c) fr en (A*86400) ((B+1)*86400))=(s',b)∧(b=true→invA K s') ∧
   fA.f P t A B fr en ((fr,()),(en,()),(clA K s,()),())=some (b,((fr,()),(en,()),(clA K s',()),()),()):=by
 have hpp:∀x y,inT x→inT y→A*86400≤x→x<(B+1)*86400→(pr y=pr x↔A*86400≤y∧y<(B+1)*86400):=fun x y hx hy h1 h2=>by rw[(hp x hx).2 (by omega),hp y hy];constructor <;> intro q <;> omega
 rw[fA.f_eq,hP.er];have hpv:=fun L hr hl=>oW hP (L:=L) hr hl
 have hpm:=fun G (hG:Rise G) (hm:∀x,x∈G↔rawP r.2.1 s0 F pr h m c x∧A*86400≤x∧x<(B+1)*86400) hlen=>kR (po:=r.2.2.2.2.2.2.2.2.2.2.2.2.2.2.1) hG hm hpp hlen
 generalize r.2.2.2.2.2.2.2.2.2.2.2.2.2.2.1=po at hpv hpm ⊢;by_cases cp:po=[]
 ·have hd1:=(xF fr (by omega) (by omega)).1;have hd2:=(xF en (by omega) (by omega)).1;obtain⟨E,hE⟩:∃E,mm false B (en/86400)=E:=⟨_,rfl⟩
  obtain⟨D,hD⟩:∃D,mm true A (fr/86400)=D:=⟨_,rfl⟩
  have hE':=hE;have hD':=hD;rw[uM1]at hE';rw[xR]at hD';have hraw:∀x,picP r.2.1 po s0 F pr h m c x↔rawP r.2.1 s0 F pr h m c x:=fun x=>⟨fun q=>q.1,fun q=>⟨q,.inl cp⟩⟩
  have hl:=zS1 hP (K:=K) (picP r.2.1 po s0 F pr h m c) A B (en/86400) E hE (by omega) hA hB
   (fun d h1 h2 hF=>iR _ fr en (lT hP.oh.1 hP.om.1 hP.oc.1 hP.om.2.1 hP.oc.2.1 0 86400 d) fun x=>by
    rw[gN hP.oh.2.1 hP.om.2.1 hP.oc.2.1,hraw];constructor
    ·rintro⟨q1,q2,q3,q4⟩;have hx:inT x:=by unfold inT;omega
     refine⟨⟨hx,q2,?_,by rw[q1];exact hF⟩,by omega,by omega⟩;unfold inP at hin ⊢;rw[(hp x hx).2 (by omega)];exact hin
    ·rintro⟨q,q1,q2⟩
     exact⟨by omega,q.2.1,by omega,by omega⟩)
   (fun d h1 h2 hF=>zF _ fr en fun x _ _ q1 q2 q=>by
    have q:=((hraw x).1 q).2.2.2;rw[show x/86400=d by omega,hF]at q
    cases q) (E+1-D).toNat D rfl (by omega) s hs
  obtain⟨s',b,h1,h2,h3⟩:=hl
  have e:memC (picP r.2.1 po s0 F pr h m c) fr en (A*86400) ((B+1)*86400)=memC (picP r.2.1 po s0 F pr h m c) fr en (D*86400) ((E+1)*86400):=zJ _ fr en fun x q1 q2=>by
   constructor
   ·rintro⟨q,q3,q4⟩;exact⟨q,by omega,by omega⟩
   ·rintro⟨q,q3,q4⟩;exact⟨q,by omega,by omega⟩
  refine⟨s',b,by rw[e];exact h1,h2,?_⟩;rw[dn (show ¬(po.length:Int)>0 by rw[cp];simp),cond_false,hd1,hd2];simp only[hZ1];rw[hD];exact h3
 ·have hpos:=mH.1 cp;obtain⟨G,G1,G2,G3⟩:=vS1 hP t ht;have g:=G3 100000 (by omega);rw[show((100000:Nat):Int)=100000 from rfl]at g;have hlen:(G.take (100000+1)).length≤1000000:=by rw[wZ1];omega
  have hm:∀x,x∈G↔rawP r.2.1 s0 F pr h m c x∧A*86400≤x∧x<(B+1)*86400:=fun x=>by
   rw[G2];constructor
   ·rintro⟨q,q1⟩;have:=(hp x q.1).1 q1;exact⟨q,by omega,by omega⟩
   ·rintro⟨q,q1⟩;exact⟨q,(hp x q.1).2 (by omega)⟩
  have hpk:=hpv _ (wA1 G1 (100000+1)) hlen;have hlp:(nM po (G.take (100000+1))).length≤1000000:=tB2 (qT po _) hlen;obtain⟨s',b,h1,h2,h3⟩:=qJ1 (K:=K) (fr:=fr) (en:=en) hlp s hs;rw[iR _ fr en (bP (wA1 G1 (100000+1))) (hpm G G1 hm (fun q=>absurd q cp))]at h1;refine⟨s',b,h1,h2,?_⟩;rw[dp hpos,cond_true,g];simp only[hZ1];rw[hpk];simp only[hZ1];rw[h3];rfl
theorem jN1 (hf:r.1≤4) (hs0:s0≤fr) (hen2:en≤253402300800):∀(n:Nat) (t:Int),(en-t).toNat≤n→fr≤t→(t<en → ∀x,inT x→fr≤x→x<t→pr x≠pr t) → ∀s:List Int,invA K s →
  ∃s' b,run (yA K) s (memC (picP r.2.1 r.2.2.2.2.2.2.2.2.2.2.2.2.2.2.1 s0 F pr h m c) fr en t en)=(s',b)∧mA.l1 fr en t fr en K s P=some (((fr,()),(en,()),(clA K s',()),()),()):=by
 have hstop:∀t:Int,¬t<en → ∀s:List Int,invA K s → ∃s' b,run (yA K) s (memC (picP r.2.1 r.2.2.2.2.2.2.2.2.2.2.2.2.2.2.1 s0 F pr h m c) fr en t en)=(s',b)∧mA.l1 fr en t fr en K s P=some (((fr,()),(en,()),(clA K s',()),()),()):=fun t c s hs=>by refine⟨s,true,by rw[zF _ fr en (fun x _ _ h1 h2=>by omega)];rfl,?_⟩;rw[mA.l1_eq,dn c,cond_false]
 intro n
 induction n with
 | zero=>
  intro t hn ht hI s hs;exact hstop t (by omega) s hs
 | succ n ih=>
  intro t hn ht hI s hs;by_cases cT:t<en
  ·have hS:=hP.inS;have htT:inT t:=by unfold inT at hS ⊢;omega
   obtain⟨A,B,g1,g2,g3,_⟩:=hP.days t htT;have hp:=g3 hf;have hw1:w6 (B+1)=B+1:=wr (by omega) (by omega);have hw2:w6 ((B+1)*86400)=(B+1)*86400:=wr (by omega) (by omega)
   have hI':(B+1)*86400<en → ∀x,inT x→fr≤x→x<(B+1)*86400→pr x≠pr ((B+1)*86400):=fun q x hx h1 h2 e=>by
    have hT':inT ((B+1)*86400):=by unfold inT at hS ⊢;omega
    have hy:inT (B*86400):=by unfold inT;omega
    by_cases cx:x≤B*86400
    ·have e1:=hP.mono x _ hx hy cx;have e2:=hP.mono _ _ hy hT' (by omega);have e3:=(hp _ hy).2 ⟨by omega,by omega⟩;have:=(hp _ hT').1 (by omega);omega
    ·have e3:=(hp x hx).2 ⟨by omega,by omega⟩;have:=(hp _ hT').1 (by omega);omega
   have ih':=ih ((B+1)*86400) (by omega) (by omega) hI';have hsp:=bO (picP r.2.1 r.2.2.2.2.2.2.2.2.2.2.2.2.2.2.1 s0 F pr h m c) fr en (a:=t) (b:=(B+1)*86400) (c:=if(B+1)*86400≤en then en else(B+1)*86400) (by omega) (by split <;> omega)
   have hlast:memC (picP r.2.1 r.2.2.2.2.2.2.2.2.2.2.2.2.2.2.1 s0 F pr h m c) fr en t (if(B+1)*86400≤en then en else(B+1)*86400)=memC (picP r.2.1 r.2.2.2.2.2.2.2.2.2.2.2.2.2.2.1 s0 F pr h m c) fr en t en:=zJ _ fr en fun x q1 q2=>by
    split
    ·exact Iff.rfl
    ·exact⟨fun q=>⟨q.1,q.2.1,by omega⟩,fun q=>⟨q.1,q.2.1,by omega⟩⟩
   have hnext:memC (picP r.2.1 r.2.2.2.2.2.2.2.2.2.2.2.2.2.2.1 s0 F pr h m c) fr en ((B+1)*86400) (if(B+1)*86400≤en then en else(B+1)*86400)=memC (picP r.2.1 r.2.2.2.2.2.2.2.2.2.2.2.2.2.2.1 s0 F pr h m c) fr en ((B+1)*86400) en:=zJ _ fr en fun x q1 q2=>by
    split
    ·exact Iff.rfl
    ·exact⟨fun q=>⟨q.1,q.2.1,by omega⟩,fun q=>⟨q.1,q.2.1,by omega⟩⟩
   rw[hlast,hnext]at hsp;rw[mA.l1_eq,dp cT,cond_true,g1];simp only[hZ1];rw[cF1 hP t htT];simp only[hZ1];by_cases cin:inP r.2.1 s0 pr t
   ·obtain⟨s1,b1,k1,k2,k3⟩:=perA hP hfr hen (K:=K) t A B htT (by omega) (by omega) ⟨g2.1,g2.2.1⟩ hp cin s hs
    have e:memC (picP r.2.1 r.2.2.2.2.2.2.2.2.2.2.2.2.2.2.1 s0 F pr h m c) fr en (A*86400) ((B+1)*86400)=memC (picP r.2.1 r.2.2.2.2.2.2.2.2.2.2.2.2.2.2.1 s0 F pr h m c) fr en t ((B+1)*86400):=zJ _ fr en fun x q1 q2=>by
     constructor
     ·rintro⟨q,q3,q4⟩;refine⟨q,?_,q4⟩;refine Classical.byContradiction fun z=>?_
      exact hI cT x q.1.1 q1 (by omega) ((hp x q.1.1).2 ⟨by omega,by omega⟩)
     ·rintro⟨q,q3,q4⟩;exact⟨q,by omega,q4⟩
    rw[e]at k1;rw[dp cin,cond_true,k3];simp only[hZ1];rw[mA.l2_eq]
    cases b1 with
    | false=>exact⟨s1,false,jJ hsp k1,rfl⟩
    | true=>
     obtain⟨s',b,h1,h2⟩:=ih' s1 (k2 rfl);refine⟨s',b,uL hsp k1 h1,?_⟩;rw[mZ1,cond_false,hw1,hw2];exact h2
   ·have e:memC (picP r.2.1 r.2.2.2.2.2.2.2.2.2.2.2.2.2.2.1 s0 F pr h m c) fr en t ((B+1)*86400)=[]:=zF _ fr en fun x _ _ q3 q4 q=>by have q5:=q.1.2.2.1;unfold inP at cin q5;rw[(hp x q.1.1).2 ⟨by omega,by omega⟩]at q5;exact cin q5
    rw[e,lA2]at hsp;obtain⟨s',b,h1,h2⟩:=ih' s hs;refine⟨s',b,by rw[←hsp];exact h1,?_⟩;rw[dn cin,cond_false,mA.l2_eq,cond_false,hw1,hw2];exact h2
  ·exact hstop t cT s hs
theorem mY1 (hf:r.1≤4) (hs0:s0≤fr) (hen2:en≤253402300800) (s:List Int) (hs:invA K s):
  ∃s' b,run (yA K) s (memL (picP r.2.1 r.2.2.2.2.2.2.2.2.2.2.2.2.2.2.1 s0 F pr h m c) fr en)=(s',b)∧mA.f P fr en ((fr,()),(en,()),(clA K s,()),())=some (((fr,()),(en,()),(clA K s',()),()),()):=by
 obtain⟨s',b,h1,h2⟩:=jN1 hP hfr hen (K:=K) hf hs0 hen2 _ fr (tZ1 _) (iB2 _) (fun _ x _ q1 q2=>by omega) s hs;rw[oZ]at h1;refine⟨s',b,h1,?_⟩;rw[mA.f_eq];exact h2
end
section
variable {K fr en : Int} {P : PlT}
theorem pK1 {c:List Int} (hc:okT c 59) (at_ t:Int) (ht: -63000000000≤t∧t≤300000000000) (m:List Int) (ml i:Int) (s:List Int):∀(n j:Nat),c.length-j=n→j≤c.length → ∀acc:List Int,acc.length≤j →
  cA.l2a at_ t m ml i c (c.length:Int) (j:Int) fr en K s P acc=(lB.f P (acc++(c.drop j).map fun x=>t+x)).bind fun q=>cA.l3 at_ q.1 m ml i fr en K s P:=by
 have hlim:yC=17179869184:=rfl;have lc:=hc.2.2;intro n
 induction n with
 | zero=>
  intro j hn hj acc ha;have e:j=c.length:=by omega
  subst e;rw[cA.l2a_eq,dn (show ¬(c.length:Int)<(c.length:Int) by omega),cond_false,vA2,List.map_nil,cA2]
 | succ n ih=>
  intro j hn hj acc ha;have hlt:j<c.length:=by omega
  have hx:=hc.2.1 _ (bI hlt);have ih':=ih (j+1) (by omega) (by omega) (acc++[t+c.getD j 0]) (by rw[uD];omega);rw[xA2,yA2]at ih';rw[cA.l2a_eq,eB2,vB 0 hlt];generalize c.getD j 0=x at hx ih' ⊢;simp(disch:=omega)only[ss,sA2,hlim];rw[ih',gA2];rfl
theorem bY1 {c:List Int} (hc:okT c 59) (at_ t:Int) (ht: -63000000000≤t∧t≤300000000000) (m:List Int) (ml i:Int) (s:List Int):
  cA.l2 at_ t m ml i c (c.length:Int) 0 fr en K s P=(lB.f P (minL t c)).bind fun q=>cA.l3 at_ q.1 m ml i fr en K s P:=by
 have hlim:yC=17179869184:=rfl;have lc:=hc.2.2;rw[cA.l2_eq];unfold minL
 cases c with
 | nil=>rfl
 | cons x c=>
  have hx:=hc.2.1 x (nZ1 ..);have h:=pK1 (K:=K) (fr:=fr) (en:=en) (P:=P) hc at_ t ht m ml i s c.length 1 (by rw[hA2];omega) (by rw[hA2];omega) [t+x] (by simp);have hlen:((x::c).length:Int)>0:=by rw[hA2];omega
  have hw:w6 (t+x)=t+x:=wr (by omega) (by omega);rw[dp (show(0:Int)<((x::c).length:Int) by omega),cond_true,dp (show(0:Int)≤0 by omega),cond_true,cond_true,tn_0,List.getD_cons_zero,hw];rw[dp (show([]:List Int).length+[t+x].length≤yC by rw[hlim];simp),cond_true];exact h
theorem dN1 {c:List Int} (hc:okT c 59) (at_ t b:Int) (ht: -63000000000≤t∧t≤300000000000) (hb:0≤b∧b≤59) (h:List Int) (hl i:Int) (m:List Int) (ml j:Int) (s:List Int) (N:Nat) (hN:N≤3600):∀(n k:Nat),c.length-k=n→k≤c.length → ∀acc:List Int,acc.length≤N+k →
  jA.l3 at_ t b h hl i m ml j c (c.length:Int) (k:Int) fr en K s P acc=jA.l2 at_ t h hl i m ml (w6 (j+1)) fr en K s P (acc++(c.drop k).map fun x=>t+60*b+x):=by
 have hlim:yC=17179869184:=rfl;have lc:=hc.2.2;intro n
 induction n with
 | zero=>
  intro k hn hk acc ha;have e:k=c.length:=by omega
  subst e;rw[jA.l3_eq,dn (show ¬(c.length:Int)<(c.length:Int) by omega),cond_false,vA2,List.map_nil,cA2]
 | succ n ih=>
  intro k hn hk acc ha;have hlt:k<c.length:=by omega
  have hx:=hc.2.1 _ (bI hlt);have ih':=ih (k+1) (by omega) (by omega) (acc++[t+60*b+c.getD k 0]) (by rw[uD];omega);rw[xA2,yA2]at ih';rw[jA.l3_eq,eB2,vB 0 hlt];generalize c.getD k 0=x at hx ih' ⊢;simp(disch:=omega)only[ss,sA2,hlim];rw[ih',gA2];rfl
theorem wL1 {m c:List Int} (hP:P.2.2.2.2.2.1=c) (om:okT m 59) (hc:okT c 59) (at_ t:Int) (ht: -63000000000≤t∧t≤300000000000) (h:List Int) (hl i:Int) (s:List Int):∀(n j:Nat),m.length-j=n→j≤m.length → ∀acc:List Int,acc.length≤60*j →
  jA.l2 at_ t h hl i m (m.length:Int) (j:Int) fr en K s P acc=jA.l2 at_ t h hl i m (m.length:Int) (m.length:Int) fr en K s P (acc++(m.drop j).flatMap fun b=>minL (t+60*b) c):=by
 have lc:=hc.2.2;have lm:=om.2.2;intro n
 induction n with
 | zero=>
  intro j hn hj acc ha;have e:j=m.length:=by omega
  subst e;rw[vA2,List.flatMap_nil,cA2]
 | succ n ih=>
  intro j hn hj acc ha;have hlt:j<m.length:=by omega
  have hx:=om.2.1 _ (bI hlt);have hw:w6 ((j:Int)+1)=((j+1:Nat):Int):=wU1 (by omega);rw[jA.l2_eq,eB2,vB 0 hlt,gC2,hP];generalize m.getD j 0=b at hx ⊢;have h3:=dN1 (K:=K) (fr:=fr) (en:=en) (P:=P) hc at_ t b ht hx h hl i m (m.length:Int) (j:Int) s (60*j) (by omega) c.length 0 (by omega) (oZ1 _) acc (by omega);rw[yZ1,pA2,hw]at h3;have ih':=ih (j+1) (by omega) (by omega) (acc++minL (t+60*b) c) (by unfold minL;rw[lZ1,wA2];omega);rw[dp (show(j:Int)<(m.length:Int) by omega),dp (show(0:Int)≤(j:Int) by omega),cond_true,cond_true,cond_true,h3];rw[gA2]at ih';exact ih'
end
section
variable {P : PlT} {r : Rl} {s0 : Int} {F : Int → Bool} {pr : Int → Int} {h m c : List Int} (hP : PlanOK P r s0 F pr h m c) {K fr en : Int} (hfr : -63000000000 ≤ fr ∧ fr ≤ 300000000000) (hen : -63000000000 ≤ en ∧ en ≤ 300000000000)
include hP
theorem cP1 (d a:Int) (hd: -719162≤d∧d≤2932896) (ha:a∈h) (hF:F d=true) (hf:r.1=6∨r.1=7):∀(n i:Nat),m.length-i=n→i≤m.length → ∀s:List Int,invA K s →
  ∃s' b,run (yA K) s (memC (fun x=>picP r.2.1 r.2.2.2.2.2.2.2.2.2.2.2.2.2.2.1 s0 F pr h m c x∧(x-(d*86400+3600*a))/60∈m.drop i) fr en (d*86400+3600*a) (d*86400+3600*a+3600))=(s',b)∧(b=true→invA K s') ∧
   cA.l1 (d*86400+3600*a) m (m.length:Int) (i:Int) fr en K s P=some (b,((fr,()),(en,()),(clA K s',()),()),()):=by
 have lm:=hP.om.2.2;have lc:=hP.oc.2.2;have ha0:=hP.oh.2.1 a ha;intro n
 induction n with
 | zero=>
  intro i hn hi s hs;have e:i=m.length:=by omega
  subst e;refine⟨s,true,by rw[zF _ fr en (fun x _ _ _ _ q=>by rw[vA2]at q;exact absurd q.2 (by simp))];rfl,fun _=>hs,?_⟩;rw[cA.l1_eq];simp(disch:=omega)only[ss]
 | succ n ih=>
  intro i hn hi s hs;have hlt:i<m.length:=by omega
  have ih':=ih (i+1) (by omega) (by omega);rw[xA2,yA2]at ih';have hbm:=bI hlt;have hb0:=hP.om.2.1 _ hbm;have hrd:Rise (m.drop i):=List.Pairwise.sublist (List.drop_sublist i m) hP.om.1;rw[vB 0 hlt]at hrd ⊢;have hgb:m.getD (i:Int).toNat 0=m.getD i 0:=by rw[eB2]
  rw[cA.l1_eq,hgb];generalize m.getD i 0=b at hbm hb0 hrd ⊢;have hsp:=lZ (picP r.2.1 r.2.2.2.2.2.2.2.2.2.2.2.2.2.2.1 s0 F pr h m c) fr en (a:=b) (l:=m.drop (i+1)) (lo:=d*86400+3600*a) (hi:=d*86400+3600*a+3600) (a1:=d*86400+3600*a+60*b) (a2:=d*86400+3600*a+60*b+60)
   (fun x=>(x-(d*86400+3600*a))/60) hrd (fun x y q=>by omega) (fun x _=>by constructor <;> intro q <;> omega)
  have w1:w6 (d*86400+3600*a+w6 ((60:Int)*b))=d*86400+3600*a+60*b:=by rw[wr (x:=(60:Int)*b) (by omega) (by omega),wr (by omega) (by omega)]
  have w2:w6 ((i:Int)+1)=(i:Int)+1:=wr (by omega) (by omega);have htT:inT (d*86400+3600*a+60*b):=by unfold inT;omega
  have fin:∀L:List Int,L.length≤1000000→L.filter (inW fr en)=memC (picP r.2.1 r.2.2.2.2.2.2.2.2.2.2.2.2.2.2.1 s0 F pr h m c) fr en (d*86400+3600*a+60*b) (d*86400+3600*a+60*b+60) →
    ∃s' b',run (yA K) s (memC (fun x=>picP r.2.1 r.2.2.2.2.2.2.2.2.2.2.2.2.2.2.1 s0 F pr h m c x∧(x-(d*86400+3600*a))/60∈b::m.drop (i+1)) fr en (d*86400+3600*a) (d*86400+3600*a+3600))=(s',b')∧(b'=true→invA K s')∧cA.l3 (d*86400+3600*a) L m (m.length:Int) (i:Int) fr en K s P=some (b',((fr,()),(en,()),(clA K s',()),()),()):=by
   intro L hL he;obtain⟨s1,b1,g1,g2,g3⟩:=qJ1 (K:=K) (fr:=fr) (en:=en) hL s hs;rw[he]at g1;rw[cA.l3_eq,g3];simp only[hZ1]
   cases b1 with
   | false=>exact⟨s1,false,jJ hsp g1,(fun q=>by cases q),rfl⟩
   | true=>
    obtain⟨s',b',h1,h2,h3⟩:=ih' s1 (g2 rfl);refine⟨s',b',uL hsp g1 h1,h2,?_⟩;rw[mZ1,cond_false,w2];exact h3
  rw[dp (show(i:Int)<(m.length:Int) by omega),dp (show(0:Int)≤(i:Int) by omega),cond_true,cond_true,cond_true,w1,hP.er];by_cases c7:r.1=7
  ·obtain⟨L,k1,k2,k3⟩:=oO1 hP d a b hd ha hbm hF c7;rw[dp c7,cond_true,k3];simp only[hZ1];exact fin L k1 (iR _ fr en k2.1 k2.2)
  ·have c6:r.1=6:=by omega
   obtain⟨k1,k2,k3⟩:=iQ1 hP d a b hd ha hbm hF c6;rw[dn c7,cond_false,cF1 hP _ htT];simp only[hZ1];by_cases cin:inP r.2.1 s0 pr (d*86400+3600*a+60*b)
   ·rw[dp cin,cond_true,hP.ec,bY1 (K:=K) hP.oc _ _ (by omega) m _ _ s,oW hP (eR hP _) (tP1 hP _)];simp only[hZ1];exact fin _ k1 (iR _ fr en k2 (k3 cin))
   ·have e:memC (picP r.2.1 r.2.2.2.2.2.2.2.2.2.2.2.2.2.2.1 s0 F pr h m c) fr en (d*86400+3600*a+60*b) (d*86400+3600*a+60*b+60)=[]:=zF _ fr en fun x _ _ q1 q2 q=>by have q5:=q.1.2.2.1;unfold inP at cin q5;rw[hP.p6 c6 x q.1.1,show x/60=(d*86400+3600*a+60*b)/60 by omega,←hP.p6 c6 _ htT]at q5;exact cin q5
    rw[e,lA2]at hsp;obtain⟨s1,b1,g1,g2,g3⟩:=qJ1 (K:=K) (fr:=fr) (en:=en) (L:=[]) (oZ1 _) s hs;have g1:(s,true)=(s1,b1):=g1;obtain⟨rfl,rfl⟩:=Prod.mk.inj g1;obtain⟨s',b',h1,h2,h3⟩:=ih' s hs;refine⟨s',b',by rw[←hsp];exact h1,h2,?_⟩;rw[dn cin,cond_false,cA.l3a_eq,g3];simp only[hZ1];rw[mZ1,cond_false,w2];exact h3
theorem nY1 (d a:Int) (hd: -719162≤d∧d≤2932896) (ha:a∈h) (hF:F d=true) (hf:r.1=6∨r.1=7) (s:List Int) (hs:invA K s):
  ∃s' b,run (yA K) s (memC (picP r.2.1 r.2.2.2.2.2.2.2.2.2.2.2.2.2.2.1 s0 F pr h m c) fr en (d*86400+3600*a) (d*86400+3600*a+3600))=(s',b)∧(b=true→invA K s') ∧
   cA.f P (d*86400+3600*a) ((fr,()),(en,()),(clA K s,()),())=some (b,((fr,()),(en,()),(clA K s',()),()),()):=by
 obtain⟨s',b,h1,h2,h3⟩:=cP1 hP (K:=K) (fr:=fr) (en:=en) d a hd ha hF hf m.length 0 (by omega) (oZ1 _) s hs
 have e:memC (picP r.2.1 r.2.2.2.2.2.2.2.2.2.2.2.2.2.2.1 s0 F pr h m c) fr en (d*86400+3600*a) (d*86400+3600*a+3600)=memC (fun x=>picP r.2.1 r.2.2.2.2.2.2.2.2.2.2.2.2.2.2.1 s0 F pr h m c x∧(x-(d*86400+3600*a))/60∈m.drop 0) fr en (d*86400+3600*a) (d*86400+3600*a+3600):=zJ _ fr en fun x _ _=>by
  rw[pA2];constructor
  ·rintro⟨q,q1,q2⟩;exact⟨⟨q,((wL hP d a x hd ha hF q1 q2).1 q.1).1⟩,q1,q2⟩
  ·rintro⟨⟨q,_⟩,q1⟩;exact⟨q,q1⟩
 refine⟨s',b,by rw[e];exact h1,h2,?_⟩;rw[yZ1]at h3;rw[cA.f_eq,hP.em];exact h3
theorem iT1 (d:Int) (hd: -719162≤d∧d≤2932896) (hF:F d=true) (hf:4<r.1):∀(n i:Nat),h.length-i=n→i≤h.length → ∀s:List Int,invA K s →
  ∃s' b,run (yA K) s (memC (fun x=>picP r.2.1 r.2.2.2.2.2.2.2.2.2.2.2.2.2.2.1 s0 F pr h m c x∧(x-d*86400)/3600∈h.drop i) fr en (d*86400) (d*86400+86400))=(s',b)∧(b=true→invA K s') ∧
   jA.l1 (d*86400) h (h.length:Int) (i:Int) fr en K s P=some (b,((fr,()),(en,()),(clA K s',()),()),()):=by
 have lh:=hP.oh.2.2;have hfr7:=hP.fr;intro n
 induction n with
 | zero=>
  intro i hn hi s hs;have e:i=h.length:=by omega
  subst e;refine⟨s,true,by rw[zF _ fr en (fun x _ _ _ _ q=>by rw[vA2]at q;exact absurd q.2 (by simp))];rfl,fun _=>hs,?_⟩;rw[jA.l1_eq];simp(disch:=omega)only[ss]
 | succ n ih=>
  intro i hn hi s hs;have hlt:i<h.length:=by omega
  have ih':=ih (i+1) (by omega) (by omega);rw[xA2,yA2]at ih';have hbm:=bI hlt;have hb0:=hP.oh.2.1 _ hbm;have hrd:Rise (h.drop i):=List.Pairwise.sublist (List.drop_sublist i h) hP.oh.1;rw[vB 0 hlt]at hrd ⊢;have hgb:h.getD (i:Int).toNat 0=h.getD i 0:=by rw[eB2]
  rw[jA.l1_eq,hgb];generalize h.getD i 0=a at hbm hb0 hrd ⊢;have hsp:=lZ (picP r.2.1 r.2.2.2.2.2.2.2.2.2.2.2.2.2.2.1 s0 F pr h m c) fr en (a:=a) (l:=h.drop (i+1)) (lo:=d*86400) (hi:=d*86400+86400) (a1:=d*86400+3600*a) (a2:=d*86400+3600*a+3600)
   (fun x=>(x-d*86400)/3600) hrd (fun x y q=>by omega) (fun x _=>by constructor <;> intro q <;> omega)
  have w1:w6 (d*86400+w6 ((3600:Int)*a))=d*86400+3600*a:=by rw[wr (x:=(3600:Int)*a) (by omega) (by omega),wr (by omega) (by omega)]
  have w2:w6 ((i:Int)+1)=(i:Int)+1:=wr (by omega) (by omega);have htT:inT (d*86400+3600*a):=by unfold inT;omega
  rw[dp (show(i:Int)<(h.length:Int) by omega),dp (show(0:Int)≤(i:Int) by omega),cond_true,cond_true,cond_true,w1,w2,hP.er];by_cases c5:r.1>5
  ·obtain⟨s1,b1,g1,g2,g3⟩:=nY1 hP (K:=K) (fr:=fr) (en:=en) d a hd hbm hF (by omega) s hs;rw[dp c5,cond_true,g3];simp only[hZ1]
   cases b1 with
   | false=>exact⟨s1,false,jJ hsp g1,(fun q=>by cases q),rfl⟩
   | true=>
    obtain⟨s',b',h1,h2,h3⟩:=ih' s1 (g2 rfl);refine⟨s',b',uL hsp g1 h1,h2,?_⟩;rw[mZ1,cond_false];exact h3
  ·have c5':r.1=5:=by omega
   obtain⟨k1,k2,k3⟩:=lS1 hP d a hd hbm hF c5';rw[dn c5,cond_false,cF1 hP _ htT];simp only[hZ1];by_cases cin:inP r.2.1 s0 pr (d*86400+3600*a)
   ·obtain⟨s1,b1,g1,g2,g3⟩:=qJ1 (K:=K) (fr:=fr) (en:=en) k1 s hs;rw[iR _ fr en k2 (k3 cin)]at g1;have hl2:=wL1 (K:=K) (fr:=fr) (en:=en) (P:=P) hP.ec hP.om hP.oc (d*86400) (d*86400+3600*a) (by omega) h (h.length:Int) (i:Int) s m.length 0 (by omega) (oZ1 _) [] (oZ1 _);rw[yZ1,pA2,lA2]at hl2;have hpk:=oW hP (mL hP.om.1 hP.oc.1 hP.oc.2.1 (d*86400+3600*a)) (tB2 (hB1 hP _) (by decide));unfold nB1 at hpk g3 k1 k2 k3;rw[dp cin,mZ1,cond_false,hP.em,hl2,jA.l2_eq,dn (show ¬(m.length:Int)<(m.length:Int) by omega),cond_false,hpk];simp only[hZ1];rw[g3];simp only[hZ1]
    cases b1 with
    | false=>exact⟨s1,false,jJ hsp g1,(fun q=>by cases q),rfl⟩
    | true=>
     obtain⟨s',b',h1,h2,h3⟩:=ih' s1 (g2 rfl);refine⟨s',b',uL hsp g1 h1,h2,?_⟩;rw[mZ1,cond_false,w2];exact h3
   ·have e:memC (picP r.2.1 r.2.2.2.2.2.2.2.2.2.2.2.2.2.2.1 s0 F pr h m c) fr en (d*86400+3600*a) (d*86400+3600*a+3600)=[]:=zF _ fr en fun x _ _ q1 q2 q=>by have q5:=q.1.2.2.1;unfold inP at cin q5;rw[hP.p5 c5' x q.1.1,show x/3600=(d*86400+3600*a)/3600 by omega,←hP.p5 c5' _ htT]at q5;exact cin q5
    rw[e,lA2]at hsp;obtain⟨s',b',h1,h2,h3⟩:=ih' s hs;refine⟨s',b',by rw[←hsp];exact h1,h2,?_⟩;rw[dn cin,aA2,cond_true];exact h3
theorem hrsA (d:Int) (hd: -719162≤d∧d≤2932896) (hF:F d=true) (hf:4<r.1) (s:List Int) (hs:invA K s):
  ∃s' b,run (yA K) s (memC (picP r.2.1 r.2.2.2.2.2.2.2.2.2.2.2.2.2.2.1 s0 F pr h m c) fr en (d*86400) ((d+1)*86400))=(s',b)∧(b=true→invA K s') ∧
   jA.f P (d*86400) ((fr,()),(en,()),(clA K s,()),())=some (b,((fr,()),(en,()),(clA K s',()),()),()):=by
 obtain⟨s',b,h1,h2,h3⟩:=iT1 hP (K:=K) (fr:=fr) (en:=en) d hd hF hf h.length 0 (by omega) (oZ1 _) s hs
 have e:memC (picP r.2.1 r.2.2.2.2.2.2.2.2.2.2.2.2.2.2.1 s0 F pr h m c) fr en (d*86400) ((d+1)*86400)=memC (fun x=>picP r.2.1 r.2.2.2.2.2.2.2.2.2.2.2.2.2.2.1 s0 F pr h m c x∧(x-d*86400)/3600∈h.drop 0) fr en (d*86400) (d*86400+86400):=zJ _ fr en fun x _ _=>by
  rw[pA2];constructor
  ·rintro⟨q,q1,q2⟩;have:=((cC1 hP.om.2.1 hP.oc.2.1 _).1 q.1.2.1).1;rw[show x%86400/3600=(x-d*86400)/3600 by omega]at this;exact⟨⟨q,this⟩,q1,by omega⟩
  ·rintro⟨⟨q,_⟩,q1,q2⟩;exact⟨q,q1,by omega⟩
 refine⟨s',b,by rw[e];exact h1,h2,?_⟩;rw[yZ1]at h3;rw[jA.f_eq,hP.eh];exact h3
theorem zN1 (hf:4<r.1) (D:Int) (hD:D≤2932897):∀(n:Nat) (d:Int),(D+1-d).toNat=n → -800000≤d → ∀s:List Int,invA K s →
  ∃s' b,run (yA K) s (memC (picP r.2.1 r.2.2.2.2.2.2.2.2.2.2.2.2.2.2.1 s0 F pr h m c) fr en (d*86400) ((D+1)*86400))=(s',b)∧tA.l1 D d fr en K s P=some (((fr,()),(en,()),(clA K s',()),()),()):=by
 intro n
 induction n with
 | zero=>
  intro d hn hd s hs;refine⟨s,true,by rw[zF _ fr en (fun x _ _ h1 h2=>by omega)];rfl,?_⟩;rw[tA.l1_eq,dn (show ¬d≤D by omega),cond_false]
 | succ n ih=>
  intro d hn hd s hs;have hdD:d≤D:=by omega
  have hw:w6 (d+1)=d+1:=wr (by omega) (by omega);have hw2:w6 (d*86400)=d*86400:=wr (by omega) (by omega);have hsp:=bO (picP r.2.1 r.2.2.2.2.2.2.2.2.2.2.2.2.2.2.1 s0 F pr h m c) fr en (a:=d*86400) (b:=(d+1)*86400) (c:=(D+1)*86400) (by omega) (by omega);have ih':=ih (d+1) (by omega) (by omega);rw[tA.l1_eq,dp hdD,cond_true,nB.f_eq,hP.fits d];simp only[hZ1]
  cases hF:F d with
  | false=>
   rw[zF _ fr en (fun x _ _ q1 q2 q=>by
    have q:=q.1.2.2.2;rw[show x/86400=d by omega,hF]at q
    cases q),lA2]at hsp
   obtain⟨s',b,h1,h2⟩:=ih' s hs;refine⟨s',b,by rw[←hsp];exact h1,?_⟩;rw[cond_false,tA.l2_eq,cond_false,hw];exact h2
  | true=>
   obtain⟨s1,b1,g1,g2,g3⟩:=hrsA hP (K:=K) (fr:=fr) (en:=en) d (hP.fin d hF) hF hf s hs;rw[cond_true,hw2,g3];simp only[hZ1];rw[tA.l2_eq]
   cases b1 with
   | false=>exact⟨s1,false,jJ hsp g1,rfl⟩
   | true=>
    obtain⟨s',b,h1,h2⟩:=ih' s1 (g2 rfl);refine⟨s',b,uL hsp g1 h1,?_⟩;rw[mZ1,cond_false,hw];exact h2
include hfr hen
theorem nX1 (hf:4<r.1) (hen2:en≤253402300800) (s:List Int) (hs:invA K s):
  ∃s' b,run (yA K) s (memL (picP r.2.1 r.2.2.2.2.2.2.2.2.2.2.2.2.2.2.1 s0 F pr h m c) fr en)=(s',b)∧tA.f P fr en ((fr,()),(en,()),(clA K s,()),())=some (((fr,()),(en,()),(clA K s',()),()),()):=by
 have hd1:=(xF fr (by omega) (by omega)).1;have hd2:=(xF en (by omega) (by omega)).1;obtain⟨s',b,h1,h2⟩:=zN1 hP (K:=K) (fr:=fr) (en:=en) hf (en/86400) (by omega) _ (fr/86400) rfl (by omega) s hs;have e:memC (picP r.2.1 r.2.2.2.2.2.2.2.2.2.2.2.2.2.2.1 s0 F pr h m c) fr en fr en=memC (picP r.2.1 r.2.2.2.2.2.2.2.2.2.2.2.2.2.2.1 s0 F pr h m c) fr en (fr/86400*86400) ((en/86400+1)*86400):=zJ _ fr en fun x q1 q2=>⟨fun q=>⟨q.1,by omega,by omega⟩,fun q=>⟨q.1,q1,q2⟩⟩
 rw[←oZ,e];refine⟨s',b,h1,?_⟩;rw[tA.f_eq,hd1,hd2];exact h2
omit hfr hen
theorem zX1 (hu:r.2.2.2.2.2.1=true→inT r.2.2.2.1) (f0 e0:Int) (hf0: -63000000000≤f0∧f0≤300000000000) (he0: -63000000000≤e0∧e0≤253402300799) (s:List Int) (hs:invA K s):
  qB.f P f0 e0 (clA K s)=some (clA K (run (yA K) s (memL (belP r.2.1 r.2.2.2.1 r.2.2.2.2.2.1 r.2.2.2.2.2.2.2.2.2.2.2.2.2.2.1 s0 F pr h m c) f0 e0)).1,()):=by
 have hS:=hP.inS;unfold inT at hS;have hgo:∀fr en:Int,s0≤fr → -63000000000≤fr∧fr≤300000000000 → -63000000000≤en∧en≤253402300800→memL (picP r.2.1 r.2.2.2.2.2.2.2.2.2.2.2.2.2.2.1 s0 F pr h m c) fr en=memL (belP r.2.1 r.2.2.2.1 r.2.2.2.2.2.1 r.2.2.2.2.2.2.2.2.2.2.2.2.2.2.1 s0 F pr h m c) f0 e0 →
   qB.l1 K s P fr en=some (clA K (run (yA K) s (memL (belP r.2.1 r.2.2.2.1 r.2.2.2.2.2.1 r.2.2.2.2.2.2.2.2.2.2.2.2.2.2.1 s0 F pr h m c) f0 e0)).1,()):=by
  intro fr en h1 h2 h3 e;rw[qB.l1_eq,hP.er];by_cases c5:r.1<5
  ·obtain⟨s',b,g1,g2⟩:=mY1 hP (K:=K) h2 (by omega) (by omega) h1 h3.2 s hs;rw[dp c5,cond_true,g2];simp only[hZ1];rw[←e,g1]
  ·obtain⟨s',b,g1,g2⟩:=nX1 hP (K:=K) h2 (by omega) (by omega) h3.2 s hs;rw[dn c5,cond_false,g2];simp only[hZ1];rw[←e,g1]
 rw[qB.f_eq,hP.er,hP.es,xR]
 cases hen:r.2.2.2.2.2.1 with
 | false=>
  rw[hen]at hgo;rw[cond_false];refine hgo _ _ (by omega) (by omega) (by omega) (xC1 _ (oJ _ _ _) fun x=>?_);rw[oG,iJ1];constructor
  ·rintro⟨q,q1,q2⟩;exact⟨⟨q,by omega,(fun z=>by cases z)⟩,by omega,q2⟩
  ·rintro⟨⟨q,q1,_⟩,q2,q3⟩;exact⟨q,by omega,q3⟩
 | true=>
  have hu:=hu hen;unfold inT at hu;rw[hen]at hgo;rw[cond_true,wr (x:=r.2.2.2.1+1) (by omega) (by omega),uM1];refine hgo _ _ (by omega) (by omega) (by omega) (xC1 _ (oJ _ _ _) fun x=>?_);rw[oG,iJ1];constructor
  ·rintro⟨q,q1,q2⟩;exact⟨⟨q,by omega,fun _=>by omega⟩,by omega,by omega⟩
  ·rintro⟨⟨q,q1,q4⟩,q2,q3⟩;have:=q4 rfl;exact⟨q,by omega,by omega⟩
end
noncomputable def belR (r:Rl) (s:Int):Int→Prop:=
 belP r.2.1 r.2.2.2.1 r.2.2.2.2.2.1 r.2.2.2.2.2.2.2.2.2.2.2.2.2.2.1 s (bU r.1 r.2.2.2.2.1 r.2.2.2.2.2.2.1 r.2.2.2.2.2.2.2.1 r.2.2.2.2.2.2.2.2.1 r.2.2.2.2.2.2.2.2.2.1 r.2.2.2.2.2.2.2.2.2.2.1 s) (per r.1 r.2.2.2.2.1 r.2.2.2.2.2.2.2.1) (iZ r.1 r.2.2.2.2.2.2.2.2.2.2.2.1 s) (eI1 r.1 r.2.2.2.2.2.2.2.2.2.2.2.2.1 s) (pL1 r.1 r.2.2.2.2.2.2.2.2.2.2.2.2.2.1 s)
noncomputable def memR (r:Rl) (s e:Int):List Int:=memL (belR r s) s e
noncomputable def LS (r:Rl) (s e:Int):List Int:=if r.2.2.1>0 then(memR r s e).take r.2.2.1.toNat else memR r s e
def okE (s e:Int):Prop:=inT s∧inT e∧(s<e→e-s≤316224000)
theorem aK1 (r:Rl) (hr:zI r) (hm:oA.f r=some (true,())) (s:Int) (hs:inT s):∃P:PlT,eD.f r s=some (P,true,()) ∧
  PlanOK P r s (bU r.1 r.2.2.2.2.1 r.2.2.2.2.2.2.1 r.2.2.2.2.2.2.2.1 r.2.2.2.2.2.2.2.2.1 r.2.2.2.2.2.2.2.2.2.1 r.2.2.2.2.2.2.2.2.2.2.1 s) (per r.1 r.2.2.2.2.1 r.2.2.2.2.2.2.2.1) (iZ r.1 r.2.2.2.2.2.2.2.2.2.2.2.1 s) (eI1 r.1 r.2.2.2.2.2.2.2.2.2.2.2.2.1 s) (pL1 r.1 r.2.2.2.2.2.2.2.2.2.2.2.2.2.1 s):=by
 obtain⟨f,iv,ct,un,wkst,en,mo,we,yd,md,dy,ho,mi,se,po,⟨⟩⟩:=r;exact oS1 f iv ct un wkst en mo we yd md dy ho mi se po s hr hm hs
theorem hU1 {r:Rl} {s e:Int} {P:PlT} (hMk:eD.f r s=some (P,true,())) (h:okE s e):dC.f r s e=some (P,true,()):=by
 obtain⟨h1,h2,h3⟩:=h;rw[dC.f_eq,hMk,(qN e).1];unfold inT at h1 h2;by_cases c:e>s
 ·simp(disch:=omega)only[ss,dC.l1_eq]
 ·simp(disch:=omega)only[ss,dC.l1_eq]
theorem pM1 {r:Rl} {s e:Int} {P:PlT} {b:Bool} (hMk:eD.f r s=some (P,b,())) (hb:b=true→inT s) (h:¬(b=true∧okE s e)):∃Q,dC.f r s e=some (Q,false,()):=by
 rw[dC.f_eq,hMk,(qN e).1];simp only[hZ1]
 cases b with
 | false=>exact⟨_,by rw[aA2,cond_true,dC.l1_eq,cond_true]⟩
 | true=>
  have h1:=hb rfl;rw[mZ1,cond_false];by_cases c2:inT e
  ·unfold inT at h1 c2;have c3:s<e∧e-s>316224000:=by
    refine Classical.byContradiction fun q=>h ⟨rfl,h1,c2,fun z=>?_⟩
    omega
   rw[dp c2,mZ1,cond_false,dp (show e>s from c3.1),cond_true,wr (by omega) (by omega),dp c3.2,dC.l1_eq,cond_true];exact⟨_,rfl⟩
  ·unfold inT at c2;rw[dn c2,aA2,cond_true,dC.l1_eq,cond_true];exact⟨_,rfl⟩
theorem nK1 {r:Rl} (hr:zI r) (hm:oA.f r=some (true,())):(0≤r.2.2.1∧r.2.2.1≤4096)∧(r.2.2.2.2.2.1=true→inT r.2.2.2.1)∧(1≤r.2.1∧r.2.1≤1000)∧(1≤r.1∧r.1≤7):=by have hp:=(bV1 hr hm).1;unfold numP at hp;exact⟨⟨hp.1.2.2.2.2.1,hp.1.2.2.2.2.2.1⟩,fun q=>(hp.2.1 q).1,⟨hp.1.2.2.1,hp.1.2.2.2.1⟩,⟨hp.1.1,hp.1.2.1⟩⟩
section
variable {r : Rl} {s e : Int} (hr : zI r) (hm : oA.f r = some (true, ())) (ho : okE s e)
include hr hm ho
theorem eN1 {P:PlT} (hMk:eD.f r s=some (P,true,())) (M:Int) (h1:1≤M) (h2:M≤100000):oC.f P r s e M=some ((memR r s e).take (if r.2.2.1>0 then min M r.2.2.1 else M).toNat,()):=by
 obtain⟨P',hMk',hP⟩:=aK1 r hr hm s ho.1;have e1:P'=P:=by rw[hMk]at hMk';exact(congrArg Prod.fst (fA2 hMk')).symm
 subst e1;have hn:=nK1 hr hm;obtain⟨g1,g2,g3⟩:=ho;unfold inT at g1 g2;have key:∀K:Int,1≤K→K≤100000→oC.l1 s e P' K []=some ((memR r s e).take K.toNat,()):=by intro K k1 k2;have hw:=zX1 hP (K:=K) hn.2.1 s e (by omega) (by omega) [] (by unfold invA;simp;omega);have hrun:=tW1 K.toNat (memR r s e) [] (by simp;omega);rw[show((K.toNat:Nat):Int)=K by omega]at hrun;rw[oC.l1_eq];show((qB.f P' s e (clA K [])).bind fun t1=>some (t1.1.1.1,()))=_;rw[hw];simp only[hZ1];show some ((run (yesF K) [] (memR r s e)).1,())=_;rw[hrun];rfl
 rw[oC.f_eq];by_cases c:r.2.2.1>0
 ·rw[dp c,cond_true,if_pos c,uM1];exact key _ (by omega) (by omega)
 ·rw[dn c,cond_false,if_neg c];exact key _ h1 h2
theorem gS1 (most:Int) (h1:1≤most) (h2:most≤4096):qE.f r s e most=some (if((LS r s e).length:Int)>most then([],10,())else(LS r s e,0,())):=by
 obtain⟨P,hMk,hP⟩:=aK1 r hr hm s ho.1;have hn:=nK1 hr hm;have hF:=eN1 hr hm ho hMk (most+1) (by omega) (by omega);have hw:w6 (most+1)=most+1:=wr (by omega) (by omega);rw[qE.f_eq,hU1 hMk ho];simp only[hZ1];rw[mZ1,cond_false,dn (show ¬most<1 by omega),cond_false,dn (show ¬most>4096 by omega),cond_false,hw,hF];simp only[hZ1];unfold LS;generalize memR r s e=M;by_cases c:r.2.2.1>0
 ·rw[if_pos c,if_pos c];by_cases c2:((M.take r.2.2.1.toNat).length:Int)>most
  ·rw[if_pos c2,dp,cond_true];rw[wZ1]at c2 ⊢;omega
  ·have e2:M.take (min (most+1) r.2.2.1).toNat=M.take r.2.2.1.toNat:=by
    rw[wZ1]at c2;by_cases c3:r.2.2.1≤most
    ·rw[show min (most+1) r.2.2.1=r.2.2.1 by omega]
    ·rw[zZ1 (by omega),zZ1 (by omega)]
   rw[if_neg c2,e2,dn c2,cond_false]
 ·rw[if_neg c,if_neg c];by_cases c2:(M.length:Int)>most
  ·rw[if_pos c2,dp,cond_true];rw[wZ1];omega
  ·rw[if_neg c2,zZ1 (by omega),dn c2,cond_false]
end
theorem dX1 {r:Rl} {s e:Int} {bm:Bool} (hr:zI r) (hm:oA.f r=some (bm,())) (h:¬(bm=true∧okE s e)):(∀most,qE.f r s e most=some ([],1,()))∧True:=by
 have hQ:∃Q,dC.f r s e=some (Q,false,()):=by
  by_cases c:bm=true∧inT s
  ·obtain⟨rfl,hs⟩:=c;obtain⟨P,hMk,hP⟩:=aK1 r hr hm s hs;exact pM1 hMk (fun _=>hs) h
  ·obtain⟨P,hMk⟩:=mS1 r s bm hm c;exact pM1 hMk (fun q=>by cases q) (fun q=>by cases q.1)
 obtain⟨Q,hQ⟩:=hQ;constructor
 ·intro most;rw[qE.f_eq,hQ];rfl
 ·trivial
theorem mN1 (r:Rl) (hr:zI r) (s e most:Int) (h1:1≤most) (h2:most≤4096):∃L cd,qE.f r s e most=some (L,cd,())∧(¬cd=0→L=[]) ∧
  (cd=0→oA.f r=some (true,())∧okE s e∧L=LS r s e∧(L.length:Int)≤most)∧(oA.f r=some (true,())→okE s e→((LS r s e).length:Int)≤most→cd=0):=by
 obtain⟨bm,hm⟩:=rQ r hr;by_cases c:bm=true∧okE s e
 ·obtain⟨rfl,ho⟩:=c;have hl:=gS1 hr hm ho most h1 h2;by_cases c2:((LS r s e).length:Int)>most
  ·rw[if_pos c2]at hl;exact⟨[],10,hl,fun _=>rfl,fun q=>by omega,fun _ _ q=>by omega⟩
  ·rw[if_neg c2]at hl;exact⟨_,0,hl,fun q=>absurd rfl q,fun _=>⟨hm,ho,rfl,by omega⟩,fun _ _ _=>rfl⟩
 ·have hl:=(dX1 hr hm c).1 most;refine⟨[],1,hl,fun _=>rfl,fun q=>by omega,fun q q1=>?_⟩;rw[hm]at q;exact absurd ⟨congrArg Prod.fst (fA2 q),q1⟩ c
theorem gP1 {r:Rl} {s e t:Int}:t∈memR r s e↔belR r s t∧t<e:=by unfold memR;rw[oG];exact⟨fun q=>⟨q.1,q.2.2⟩,fun q=>⟨q.1,q.1.2.1,q.2⟩⟩
theorem aF1 {r:Rl} {s e t:Int} (h:t∈LS r s e):belR r s t∧s≤t∧t<e:=by
 have h:t∈memR r s e:=by
  unfold LS at h;split at h
  ·exact pC2 h
  ·exact h
 have:=gP1.1 h;exact⟨this.1,this.1.2.1,this.2⟩
end Go.GV.YtidgapgbnlcjgaaGreatDoor
