/-
Part of the words that the laws of this seat are proved with: no statement of its own, no conditions.
-/
import Derived.Test.YtidgapgbnlcjgaaGreatDoorY19
set_option linter.unusedVariables false
set_option linter.unusedSimpArgs false
namespace Go.GV.YtidgapgbnlcjgaaGreatDoor
open Go.Proofs
abbrev oP (l:List Dy):Prop:=l.Pairwise dyLt
theorem kQ :∀{a b:List Dy},oP a→oP b→(∀x,x∈a↔x∈b)→a=b
 | [],[],_,_,_=>rfl
 | [],y::b,_,_,h=>by have:=(h y).2 mM2;cases this
 | x::a,[],_,_,h=>by have:=(h x).1 mM2;cases this
 | x::a,y::b,ha,hb,h=>by
  have ha:=pN2.1 ha;have hb:=pN2.1 hb;have irr:∀q:Dy,¬dyLt q q:=fun q hq=>by unfold dyLt at hq;omega
  have asy:∀q r:Dy,dyLt q r→dyLt r q→False:=fun q r h g=>by unfold dyLt at *;omega
  have e:x=y:=by
   have h1:=(h x).1 mM2;have h2:=(h y).2 mM2;rcases jM2.1 h1 with h1 | h1
   ·exact h1
   ·rcases jM2.1 h2 with h2 | h2
    ·exact h2.symm
    ·exact(asy _ _ (hb.1 x h1) (ha.1 y h2)).elim
  subst e;rw[kQ ha.2 hb.2 fun z=>?_];have h3:=h z;simp only[jM2]at h3;constructor
  ·intro hz;rcases h3.1 (.inr hz)with h4 | h4
   ·exact(irr _ (h4 ▸ ha.1 z hz)).elim
   ·exact h4
  ·intro hz;rcases h3.2 (.inr hz)with h4 | h4
   ·exact(irr _ (h4 ▸ hb.1 z hz)).elim
   ·exact h4
theorem gS1 :∀(l:List Dy) (p x:Dy),x∈ddT p l∨x=p↔x∈l∨x=p
 | [],p,x=>by simp[ddT]
 | a::l,p,x=>by
  unfold ddT;have ih:=gS1 l a x;by_cases h:a=p
  ·subst h;rw[if_pos rfl,ih,jM2];constructor
   ·rintro(h | h)
    ·exact .inl (.inr h)
    ·exact .inr h
   ·rintro((h | h) | h)
    ·exact .inr h
    ·exact .inl h
    ·exact .inr h
  ·rw[if_neg h,jM2,jM2];constructor
   ·rintro((h1 | h1) | h1)
    ·exact .inl (.inl h1)
    ·rcases ih.1 (.inl h1)with h2 | h2
     ·exact .inl (.inr h2)
     ·exact .inl (.inl h2)
    ·exact .inr h1
   ·rintro((h1 | h1) | h1)
    ·exact .inl (.inl h1)
    ·rcases ih.2 (.inl h1)with h2 | h2
     ·exact .inl (.inr h2)
     ·exact .inl (.inl h2)
    ·exact .inr h1
def dyLe (a b:Dy):Prop:=a.1<b.1∨a.1=b.1∧a.2.1≤b.2.1
theorem jH2 {a b:Dy} (h:dyLe a b) (hne:¬b=a):dyLt a b:=by
 obtain⟨a1,a2,⟨⟩⟩:=a;obtain⟨b1,b2,⟨⟩⟩:=b;unfold dyLe at h;unfold dyLt;simp only at h ⊢;by_cases h1:a1=b1
 ·by_cases h2:a2=b2
  ·exact absurd (by rw[h1,h2]) hne
  ·omega
 ·omega
theorem eI1 :∀(l:List Dy) (p:Dy),(p::l).Pairwise dyLe→oP (p::ddT p l)
 | [],p,_=>List.pairwise_singleton _ _
 | a::l,p,h=>by
  unfold ddT;rw[pN2]at h;have ih:=eI1 l a h.2;by_cases he:a=p
  ·subst he;rw[if_pos rfl];exact ih
  ·rw[if_neg he];have hlt:dyLt p a:=jH2 (h.1 a mM2) he;refine pN2.2 ⟨fun b hb=>?_,ih⟩;rcases jM2.1 hb with rfl | hb
   ·exact hlt
   ·have:=(pN2.1 ih).1 b hb;unfold dyLt at *;omega
theorem dU1 :∀(l:List Dy) (p:Dy),(ddT p l).length≤l.length
 | [],_=>oM2 _
 | a::l,p=>by unfold ddT;have:=dU1 l a;split <;> simp <;> omega
theorem zQ1 {y:List Dy} (hy:y.length≤1000000) (hb:∀d∈y,-1000000000≤d.1∧d.1≤1000000000∧0≤d.2.1∧d.2.1≤6):
  ∃r,rC.f y ()=some (r,(),())∧r.length=y.length∧oP (ddsT r)∧(∀x,x∈ddsT r↔x∈y)∧(ddsT r).length≤y.length:=by
 have hall:y.all tJ=true:=dN2.2 fun d hd=>by have:=hb d hd;unfold tJ small;simp only[fM2,decide_eq_true_eq];omega
 obtain⟨r,hr⟩:∃r:List Dy,xN tJ lE1 lA1 y=some r:=by unfold xN;rw[hall];exact⟨_,rfl⟩
 have hp:List.Perm (α:=Dy) r y:=zO mI1 hr;have hso0:List.Pairwise (α:=Dy) (fun a b=>¬lA1 b a<0) r:=kU mI1 hr
 have hso:r.Pairwise dyLe:=hso0.imp fun {a b} h=>by have h2:=tE1 b.1 b.2.1 a.1 a.2.1;have h3:decide (gQ b.1 b.2.1 a.1 a.2.1<0)=false:=decide_eq_false h;rw[h3]at h2;have:=of_decide_eq_false h2.symm;unfold dyLe;omega
 have hf:rC.f y ()=some (r,(),()):=by rw[rC.f_sem];show(bif decide (List.length y≤wC)then(xN tJ lE1 lA1 y).map (fun ys=>(ys,(),()))else none)=_;rw[dp (by simp only[wC];omega),cond_true,hr];rfl
 refine⟨r,hf,hp.length_eq,?_,fun x=>?_,?_⟩
 ·cases r with
  | nil=>exact List.Pairwise.nil
  | cons a r=>exact eI1 r a hso
 ·have e:x∈ddsT r↔x∈r:=by
   cases r with
   | nil=>exact Iff.rfl
   | cons a r=>
    show x∈a::ddT a r↔_;rw[jM2,jM2];have:=gS1 r a x;constructor
    ·rintro(h | h)
     ·exact .inl h
     ·rcases this.1 (.inl h)with h | h
      ·exact .inr h
      ·exact .inl h
    ·rintro(h | h)
     ·exact .inl h
     ·rcases this.2 (.inl h)with h | h
      ·exact .inr h
      ·exact .inl h
  rw[e,hp.mem_iff]
 ·rw[←hp.length_eq]
  cases r with
  | nil=>exact oM2 _
  | cons a r=>show(a::ddT a r).length≤_;simp[dU1]
def isDy (s:List UInt8) (d:Dy):Prop:=isD s d.1 d.2.1
theorem bU1 :∀p:List (List UInt8),(∃ds:List Dy,All2 isDy p ds) ∨ ∃s∈p,∀n w,¬isD s n w
 | []=>.inl ⟨[],trivial⟩
 | s::p=>by
  by_cases h:∃n w,isD s n w
  ·obtain⟨n,w,hn⟩:=h;rcases bU1 p with⟨ns,h2⟩ | ⟨t,ht,h2⟩
   ·exact .inl ⟨(n,w,())::ns,hn,h2⟩
   ·exact .inr ⟨t,lM2 _ ht,h2⟩
  ·exact .inr ⟨s,mM2,fun n w hn=>h ⟨n,w,hn⟩⟩
noncomputable def aS1 (y:List Dy):Option (List Dy×Bool×Unit):=bif decide ((y.length:Int)>60)then(some ([],false,()))else((rC.f y ()).bind fun t3=>(dA.f t3.1).bind fun t4=>some (t4.1,true,()))
theorem wB2 (p:List (List UInt8)) (hp:p.length≤100000) (hpl:∀s∈p,s.length≤100000):∀(k i:Nat) (y:List Dy),p.length-i=k→i≤p.length→y.length≤i →
  (∀ds,All2 isDy (p.drop i) ds→aD.l1 (p.map mkS) p.length i y=aS1 (y++ds))∧((∃s∈p.drop i,∀n w,¬isD s n w)→aD.l1 (p.map mkS) p.length i y=some ([],false,())):=by
 have hlim:wC=17179869184:=rfl;have hml:(p.map mkS).length=p.length:=hM2 ..;intro k
 induction k with
 | zero=>
  intro i y hk hi hy;have e:i=p.length:=by omega
  subst e;rw[aD.l1_eq,wN2];simp(disch:=omega)only[ss,hml];refine⟨fun ns hns=>?_,fun⟨s,hs,_⟩=>by cases hs⟩
  cases ns with
  | nil=>rw[qM2];rfl
  | cons _ _=>exact hns.elim
 | succ k ih=>
  intro i y hk hi hy;have hlt:i<p.length:=by omega
  have hg:=gm p i hlt;rw[aD.l1_eq,nC [] hlt];rcases nY1 (p.getD i []) (by have:=hpl _ (sC [] hlt);omega)with⟨n,w,hn,hf⟩ | ⟨hn,d,hf⟩
  ·simp(disch:=omega)only[ss,hml,hg,hf,gM2,hlim];obtain⟨h1,h2⟩:=ih (i+1) (y++[(n,w,())]) (by omega) (by omega) (by simp;omega);refine⟨fun ns hns=>?_,fun⟨s,hs,hs2⟩=>?_⟩
   ·cases ns with
    | nil=>exact hns.elim
    | cons m ns=>
     obtain⟨m1,m2,⟨⟩⟩:=m;obtain⟨e1,e2⟩:=gR hns.1 hn;simp only at e1 e2;subst e1 e2;refine(h1 ns hns.2).trans ?_;rw[rM2];rfl
   ·refine h2 ?_;rcases jM2.1 hs with rfl | hs
    ·exact absurd hn (hs2 n w)
    ·exact⟨s,hs,hs2⟩
  ·simp(disch:=omega)only[ss,hml,hg,hf];refine⟨fun ns hns=>?_,fun _=>trivial⟩
   cases ns with
   | nil=>exact hns.elim
   | cons m ns=>exact absurd hns.1 (hn _ _)
def keyD (d:Dy):Int:=7*d.1+d.2.1
noncomputable def qI2 (y:List Int):Option (List Dy×Bool×Unit):=(pA.f y).bind fun t9=>fA.l5 t9.1 0 []
theorem bT1 (p:List (List UInt8)) (hp:p.length≤100000) (hpl:∀s∈p,s.length≤100000):∀(k i:Nat) (y:List Int),p.length-i=k→i≤p.length→y.length≤i →
  (∀ds,All2 isDy (p.drop i) ds→fA.l1a (p.map mkS) i y=qI2 (y++ds.map keyD))∧((∃s∈p.drop i,∀n w,¬isD s n w)→fA.l1a (p.map mkS) i y=some ([],false,())):=by
 have hml:(p.map mkS).length=p.length:=hM2 ..;intro k
 induction k with
 | zero=>
  intro i y hk hi hy;have e:i=p.length:=by omega
  subst e;rw[fA.l1a_eq,wN2];simp(disch:=omega)only[ss,hml];refine⟨fun ns hns=>?_,fun⟨s,hs,_⟩=>by cases hs⟩
  cases ns with
  | nil=>rw[qP2,qM2];rfl
  | cons _ _=>exact hns.elim
 | succ k ih=>
  intro i y hk hi hy;have hlt:i<p.length:=by omega
  obtain⟨g1,g2⟩:=lW1 p hp i hlt (hpl _ (sC [] hlt)) y hy;rw[nC [] hlt];by_cases h:∃n w,isD (p.getD i []) n w
  ·obtain⟨n,w,hn⟩:=h;rw[g1 n w hn];obtain⟨h1,h2⟩:=ih (i+1) (y++[7*n+w]) (by omega) (by omega) (by simp;omega);refine⟨fun ns hns=>?_,fun⟨s,hs,hs2⟩=>?_⟩
   ·cases ns with
    | nil=>exact hns.elim
    | cons m ns=>
     obtain⟨m1,m2,⟨⟩⟩:=m;obtain⟨e1,e2⟩:=gR hns.1 hn;simp only at e1 e2;subst e1 e2;refine(h1 ns hns.2).trans ?_;rw[rM2];rfl
   ·refine h2 ?_;rcases jM2.1 hs with rfl | hs
    ·exact absurd hn (hs2 n w)
    ·exact⟨s,hs,hs2⟩
  ·have hn:∀n w,¬isD (p.getD i []) n w:=fun n w hn=>h ⟨n,w,hn⟩
   rw[g2 hn];refine⟨fun ns hns=>?_,fun _=>rfl⟩
   cases ns with
   | nil=>exact hns.elim
   | cons m ns=>exact absurd hns.1 (hn _ _)
def decD (k:Int):Dy:=(k/7,k%7,())
theorem nK2 (q:List Int) (hq:q.length≤100000) (hb:∀k∈q,-10000000000≤k∧k≤10000000000):∀(k i:Nat) (y:List Dy),q.length-i=k→i≤q.length→y.length≤i→fA.l5 q i y=some (y++(q.drop i).map decD,true,()):=by
 have hlim:wC=17179869184:=rfl;intro k
 induction k with
 | zero=>
  intro i y hk hi hy;have e:i=q.length:=by omega
  subst e;rw[fA.l5_eq,wN2];simp(disch:=omega)only[ss];simp
 | succ k ih=>
  intro i y hk hi hy;have hlt:i<q.length:=by omega
  have hk2:=hb _ (sC 0 hlt);rw[fA.l5_eq,nC 0 hlt];simp only[cO2];generalize q.getD i 0=v at hk2;have e1:w6 (Int.tmod v 7+7)=Int.tmod v 7+7:=by have h1:=Int.tmod_lt_of_pos v (show(0:Int)<7 by omega);have h2:=Int.lt_tmod_of_pos v (show(0:Int)<7 by omega);exact wr (by omega) (by omega)
  have e2:Int.tmod (Int.tmod v 7+7) 7=v%7:=by
   by_cases h:0≤v
   ·rw[dP2 h,dP2 (by omega)];omega
   ·have h1:Int.tmod v 7 = -((-v)%7):=by
     have:Int.tmod v 7 = -Int.tmod (-v) 7:=by rw[Int.neg_tmod,Int.neg_neg]
     rw[this,dP2 (by omega)]
    rw[h1,dP2 (by omega)];omega
  have e3:Int.tdiv (v-v%7) 7=v/7:=by
   have:v-v%7=(v/7)*7:=by omega
   rw[this];exact Int.mul_tdiv_cancel _ (by omega)
  have e4:w6 (v-v%7)=v-v%7:=wr (by omega) (by omega);have e5:w6 (v/7)=v/7:=wr (by omega) (by omega);rw[e1,e2,e4,e3,e5];simp(disch:=omega)only[ss,gM2,hlim];refine(ih (i+1) (y++[(v/7,v%7,())]) (by omega) (by omega) (by simp;omega)).trans ?_;rw[rM2];rfl
def isDL (v:List UInt8) (r:List Dy):Prop:=(oP r∧r.length≤60) ∧ ∃ds,All2 isDy (segs 44 v) ds∧ds.length≤60 ∧ ∀x,x∈r↔x∈ds
theorem mC2 :∀{p:List (List UInt8)} {ds:List Dy},All2 isDy p ds → ∀d∈ds,-1000000000≤d.1∧d.1≤1000000000∧0≤d.2.1∧d.2.1≤6
 | [],[],_,d,hd=>by cases hd
 | s::p,x::ds,h,d,hd=>by
  rcases jM2.1 hd with rfl | hd
  ·have:=kD2 h.1;omega
  ·exact mC2 h.2 d hd
 | [],_::_,h,_,_=>h.elim
 | _::_,[],h,_,_=>h.elim
theorem nU (v:List UInt8) (hv:v.length≤50000):
  (∃r,isDL v r∧aD.f (mkS v)=some (r,true,())∧fA.f (mkS v)=some (r,true,())) ∨
  ((∀r,¬isDL v r)∧aD.f (mkS v)=some ([],false,())∧fA.f (mkS v)=some ([],false,())):=by
 have hsl:=cN 44 v;have hS:pD.f (mkS v) ⟨#[44]⟩=some ((segs 44 v).map mkS,()):=uJ (c:=44) v (by omega);have hV:uB.f (mkS v) 44=some ((segs 44 v).map mkS,()):=mL 44 v (by omega);have hml:((segs 44 v).map mkS).length=(segs 44 v).length:=hM2 ..;have h1:=wB2 (segs 44 v) (by omega) (fun s hs=>by have:=hsl.2 s hs;omega) _ 0 [] rfl (iM2 _) (oM2 _);have h2:=bT1 (segs 44 v) (by omega) (fun s hs=>by have:=hsl.2 s hs;omega) _ 0 [] rfl (iM2 _) (oM2 _);rw[bN2,tM2]at h1 h2;have hf1:aD.f (mkS v)=aD.l1 ((segs 44 v).map mkS) (segs 44 v).length 0 []:=by rw[aD.f_eq,hS,←hml];rfl
 have hf2:fA.f (mkS v)=bif decide (((segs 44 v).length:Int)>60)then some ([],false,())else fA.l1a ((segs 44 v).map mkS) 0 []:=by rw[fA.f_eq,hV,←hml,←qL2];rfl
 rcases bU1 (segs 44 v)with⟨ds,hds⟩ | hbad
 ·have hlen:=aS hds;have hbd:=mC2 hds;have e1:=h1.1 ds hds;have e2:=h2.1 ds hds;rw[lN2]at e1 e2;by_cases h60:(ds.length:Int)>60
  ·refine .inr ⟨fun r hr=>?_,?_,?_⟩
   ·obtain⟨_,ms,h3,h4,_⟩:=hr;have:=aS h3;omega
   ·rw[hf1,e1];unfold aS1;simp(disch:=omega)only[ss]
   ·rw[hf2];simp(disch:=omega)only[ss]
  ·obtain⟨r,h3,h4,h5,h6,h6l⟩:=zQ1 (y:=ds) (by omega) hbd;have hkl:(ds.map keyD).length=ds.length:=hM2 ..;obtain⟨q,h7,h8,h9⟩:=cZ (ds.map keyD) (by omega)
   have hqb:∀k∈q,-10000000000≤k∧k≤10000000000:=fun k hk=>by obtain⟨d,hd,rfl⟩:=yM2.1 ((h9 k).1 hk);have:=hbd d hd;unfold keyD;omega
   have hdk:∀d∈ds,decD (keyD d)=d:=fun d hd=>by have:=hbd d hd;obtain⟨a,b,⟨⟩⟩:=d;unfold decD keyD;simp only at this ⊢;rw[show(7*a+b)/7=a by omega,show(7*a+b)%7=b by omega]
   have hrq:oP (q.map decD):=by rw[oP,List.pairwise_map];exact h8.imp fun {a b} h=>by unfold dyLt decD;simp only;omega
   have hmem:∀x,x∈q.map decD↔x∈ds:=fun x=>by
    rw[yM2];constructor
    ·rintro⟨k,hk,rfl⟩;obtain⟨d,hd,rfl⟩:=yM2.1 ((h9 k).1 hk);rw[hdk d hd];exact hd
    ·intro hx;exact⟨keyD x,(h9 _).2 (yM2.2 ⟨x,hx,rfl⟩),hdk x hx⟩
   have e:q.map decD=ddsT r:=kQ hrq h5 fun x=>(hmem x).trans (h6 x).symm
   have hql:q.length≤60:=by have:=congrArg List.length e;rw[hM2]at this;omega
   have h10:=nK2 q (by omega) hqb _ 0 [] rfl (iM2 _) (oM2 _);rw[bN2,lN2,tM2,e]at h10;refine .inl ⟨ddsT r,⟨⟨h5,by omega⟩,ds,hds,by omega,h6⟩,?_,?_⟩
   ·rw[hf1,e1];unfold aS1;simp(disch:=omega)only[ss,h3,aE1 r (by omega)]
   ·rw[hf2,e2];unfold qI2;simp(disch:=omega)only[ss,h7,h10]
 ·refine .inr ⟨fun r hr=>?_,?_,?_⟩
  ·obtain⟨_,ms,h3,_,_⟩:=hr;obtain⟨s,hs,hs2⟩:=hbad;have:∀(p:List (List UInt8)) (ms:List Dy),All2 isDy p ms→s∈p → ∃n w,isD s n w:=by
    intro p
    induction p with
    | nil=>intro ms _ h;cases h
    | cons t p ih=>
     intro ms h hm
     cases ms with
     | nil=>exact h.elim
     | cons m ms=>
      rcases jM2.1 hm with rfl | hm
      ·exact⟨_,_,h.1⟩
      ·exact ih ms h.2 hm
   obtain⟨n,w,hn⟩:=this _ ms h3 hs;exact hs2 n w hn
  ·rw[hf1,h1.2 hbad]
  ·rw[hf2,h2.2 hbad];cases decide (((segs 44 v).length:Int)>60) <;> rfl
def xE (f:Option (Bool×Unit)) (p:Prop):Prop:=∃b,f=some (b,())∧(b=true↔p)
theorem xE.iff {f:Option (Bool×Unit)} {p q:Prop} (h:xE f p) (e:p↔q):xE f q:=by obtain⟨b,h1,h2⟩:=h;exact⟨b,h1,h2.trans e⟩
theorem xE.eq {f g:Option (Bool×Unit)} {p:Prop} (h:xE f p) (k:xE g p):f=g:=by
 obtain⟨b,h1,h2⟩:=h;obtain⟨c,k1,k2⟩:=k;have:b=c:=by cases b <;> cases c <;> simp at h2 k2 <;> first | rfl | exact absurd k2 h2 | exact absurd h2 k2
 rw[h1,k1,this]
def okI (l:List Int) (lo hi:Int) (z:Bool) (j:Nat):Prop:=lo≤l.getD j 0∧l.getD j 0≤hi∧(l.getD j 0=0→z=true)
def adjI (l:List Int) (j:Nat):Prop:=0<j→l.getD (j-1) 0<l.getD j 0
theorem cV1 (l:List Int) (lo hi:Int) (z:Bool) (hl:l.length≤1000000):∀(k i:Nat),l.length-i=k→i≤l.length →
  xE (vB.l1 l lo hi z l l.length i) ((∀j,i≤j→j<l.length→okI l lo hi z j∧adjI l j)∧l.length≤60):=by
 intro k
 induction k with
 | zero=>
  intro i hk hil;rw[vB.l1_eq];simp(disch:=omega)only[ss];refine⟨_,rfl,?_⟩;rw[decide_eq_true_eq];exact⟨fun h=>⟨fun j h1 h2=>by omega,by omega⟩,fun h=>by omega⟩
 | succ k ih=>
  intro i hk hil;have hlt:i<l.length:=by omega
  have step:okI l lo hi z i∧adjI l i→xE (vB.l2 l lo hi z l l.length i false) ((∀j,i≤j→j<l.length→okI l lo hi z j∧adjI l j)∧l.length≤60):=fun h=>by
   rw[vB.l2_eq];simp(disch:=omega)only[ss];refine(ih (i+1) (by omega) (by omega)).iff ⟨fun q=>⟨fun j h1 h2=>?_,q.2⟩,fun q=>⟨fun j h1 h2=>q.1 j (by omega) h2,q.2⟩⟩;by_cases e:j=i
   ·subst e;exact h
   ·exact q.1 j (by omega) h2
  have stop:¬(okI l lo hi z i∧adjI l i)→xE (vB.l2 l lo hi z l l.length i true) ((∀j,i≤j→j<l.length→okI l lo hi z j∧adjI l j)∧l.length≤60):=fun h=>by rw[vB.l2_eq,cond_true];exact⟨false,rfl,by simp;intro q;exact absurd (q i (oM2 _) hlt) h⟩
  have last:okI l lo hi z i→xE (bif decide ((i:Int)>0)then(bif decide (0≤(i:Int)-1)then(vB.l2 l lo hi z l l.length i (decide (l.getD i 0≤l.getD (i-1) 0)))else none)else(vB.l2 l lo hi z l l.length i false)) ((∀j,i≤j→j<l.length→okI l lo hi z j∧adjI l j)∧l.length≤60):=fun h=>by
   by_cases h0:i=0
   ·simp(disch:=omega)only[ss];exact step ⟨h,fun q=>by omega⟩
   ·simp(disch:=omega)only[ss];by_cases c:l.getD i 0≤l.getD (i-1) 0
    ·rw[dp c];exact stop fun q=>by have:=q.2 (by omega);omega
    ·rw[dn c];exact step ⟨h,fun _=>by omega⟩
  rw[vB.l1_eq];simp(disch:=omega)only[ss];by_cases c1:l.getD i 0<lo
  ·rw[dp c1,cond_true];exact stop fun q=>by have:=q.1.1;omega
  ·by_cases c2:l.getD i 0>hi
   ·rw[dn c1,dp c2,cond_false,cond_true];exact stop fun q=>by have:=q.1.2.1;omega
   ·rw[dn c1,dn c2,cond_false,cond_false];by_cases c3:l.getD i 0=0
    ·rw[dp c3,cond_true]
     cases z with
     | false=>
      exact stop fun q=>by have:=q.1.2.2 c3;cases this
     | true=>exact last ⟨by omega,by omega,fun _=>rfl⟩
    ·rw[dn c3,cond_false];exact last ⟨by omega,by omega,fun q=>absurd q c3⟩
def wi (l:List Int) (lo hi:Int) (z:Bool):Prop:=(∀j,j<l.length→okI l lo hi z j∧adjI l j)∧l.length≤60
theorem fH (l:List Int) (lo hi:Int) (z:Bool) (hl:l.length≤1000000):xE (vB.f l lo hi z) (wi l lo hi z):=by have:=cV1 l lo hi z hl _ 0 rfl (iM2 _);rw[tM2]at this;rw[vB.f_eq];exact this.iff ⟨fun h=>⟨fun j h2=>h.1 j (iM2 _) h2,h.2⟩,fun h=>⟨fun j _ h2=>h.1 j h2,h.2⟩⟩
theorem oT1 (l:List Int) (hl:l.length≤1000000):∀(k i:Nat),l.length-i=k→0<i→xE (fE.l1 l i) (∀j,i≤j→j<l.length→adjI l j):=by
 intro k
 induction k with
 | zero=>
  intro i hk hil;rw[fE.l1_eq];by_cases hlt:i<l.length
  ·omega
  ·simp(disch:=omega)only[ss];exact⟨true,rfl,by simp;intro j h1 h2;omega⟩
 | succ k ih=>
  intro i hk hil;have hlt:i<l.length:=by omega
  have w1:w6 ((i:Int)-1)=((i-1:Nat):Int):=qS (by omega) (by omega);rw[fE.l1_eq];simp(disch:=omega)only[ss,w1];by_cases c:l.getD i 0≤l.getD (i-1) 0
  ·rw[dp c,cond_true];exact⟨false,rfl,by simp;exact⟨i,oM2 _,hlt,fun q=>by have:=q hil;omega⟩⟩
  ·rw[dn c,cond_false];refine(ih (i+1) (by omega) (by omega)).iff ⟨fun q j h1 h2=>?_,fun q j h1 h2=>q j (by omega) h2⟩;by_cases e:j=i
   ·subst e;intro _;omega
   ·exact q j (by omega) h2
theorem dN (l:List Int) (hl:l.length≤1000000):xE (fE.f l) (∀j,j<l.length→adjI l j):=by have:=oT1 l hl _ 1 rfl (by omega);rw[fE.f_eq];exact this.iff ⟨fun h j h2 h0=>h j (by omega) h2 h0,fun h j _ h2=>h j h2⟩
theorem wO1 (l:List Int) (lo hi:Int) (z:Bool) (hl:l.length≤1000000):∀(k i:Nat),l.length-i=k→i≤l.length →
  xE (fB.l1 l lo hi z i) ((∀j,i≤j→j<l.length→okI l lo hi z j)∧(∀j,j<l.length→adjI l j)∧l.length≤60):=by
 intro k
 induction k with
 | zero=>
  intro i hk hil;rw[fB.l1_eq];simp(disch:=omega)only[ss];by_cases c:(l.length:Int)≤60
  ·obtain⟨b,h1,h2⟩:=dN l hl;simp(disch:=omega)only[ss,h1];exact⟨b,rfl,h2.trans ⟨fun q=>⟨fun j h3 h4=>by omega,q,by omega⟩,fun q=>q.2.1⟩⟩
  ·simp(disch:=omega)only[ss];exact⟨false,rfl,by simp;intro _ _;omega⟩
 | succ k ih=>
  intro i hk hil;have hlt:i<l.length:=by omega
  have step:okI l lo hi z i→xE (fB.l2 l lo hi z i false) ((∀j,i≤j→j<l.length→okI l lo hi z j)∧(∀j,j<l.length→adjI l j)∧l.length≤60):=fun h=>by
   rw[fB.l2_eq];simp(disch:=omega)only[ss];refine(ih (i+1) (by omega) (by omega)).iff ⟨fun q=>⟨fun j h1 h2=>?_,q.2⟩,fun q=>⟨fun j h1 h2=>q.1 j (by omega) h2,q.2⟩⟩;by_cases e:j=i
   ·subst e;exact h
   ·exact q.1 j (by omega) h2
  have stop:¬okI l lo hi z i→xE (fB.l2 l lo hi z i true) ((∀j,i≤j→j<l.length→okI l lo hi z j)∧(∀j,j<l.length→adjI l j)∧l.length≤60):=fun h=>by rw[fB.l2_eq,cond_true];exact⟨false,rfl,by simp;intro q;exact absurd (q i (oM2 _) hlt) h⟩
  rw[fB.l1_eq];simp(disch:=omega)only[ss];by_cases c1:l.getD i 0<lo
  ·rw[dp c1,cond_true];exact stop fun q=>by have:=q.1;omega
  ·by_cases c2:l.getD i 0>hi
   ·rw[dn c1,dp c2,cond_false,cond_true];exact stop fun q=>by have:=q.2.1;omega
   ·rw[dn c1,dn c2,cond_false,cond_false];by_cases c3:l.getD i 0=0
    ·rw[dp c3,cond_true]
     cases z with
     | false=>exact stop fun q=>by have:=q.2.2 c3;cases this
     | true=>exact step ⟨by omega,by omega,fun _=>rfl⟩
    ·rw[dn c3,cond_false];exact step ⟨by omega,by omega,fun q=>absurd q c3⟩
theorem qG (l:List Int) (lo hi:Int) (z:Bool) (hl:l.length≤1000000):xE (fB.f l lo hi z) (wi l lo hi z):=by have:=wO1 l lo hi z hl _ 0 rfl (iM2 _);rw[tM2]at this;rw[fB.f_eq];exact this.iff ⟨fun h=>⟨fun j h2=>⟨h.1 j (iM2 _) h2,h.2.1 j h2⟩,h.2.2⟩,fun h=>⟨fun j _ h2=>(h.1 j h2).1,fun j h2=>(h.1 j h2).2,h.2⟩⟩
def gD (l:List Dy) (j:Nat):Dy:=l.getD j ((0,0,()):Int×Int×Unit)
def okD (l:List Dy) (j:Nat):Prop:= -53≤(gD l j).1∧(gD l j).1≤53∧0≤(gD l j).2.1∧(gD l j).2.1≤6∧(0<j→dyLt (gD l (j-1)) (gD l j))
def dwi (l:List Dy):Prop:=(∀j,j<l.length→okD l j)∧l.length≤60
theorem iJ2 (l:List Dy) (hl:l.length≤1000000):∀(k i:Nat),l.length-i=k→i≤l.length→xE (eB.l1 l i) ((∀j,i≤j→j<l.length→okD l j)∧l.length≤60):=by
 intro k
 induction k with
 | zero=>
  intro i hk hil;rw[eB.l1_eq];simp(disch:=omega)only[ss];refine⟨_,rfl,?_⟩;rw[decide_eq_true_eq];exact⟨fun h=>⟨fun j h1 h2=>by omega,by omega⟩,fun h=>by omega⟩
 | succ k ih=>
  intro i hk hil;have hlt:i<l.length:=by omega
  have step:okD l i→xE (eB.l2 l i false) ((∀j,i≤j→j<l.length→okD l j)∧l.length≤60):=fun h=>by
   rw[eB.l2_eq];simp(disch:=omega)only[ss];refine(ih (i+1) (by omega) (by omega)).iff ⟨fun q=>⟨fun j h1 h2=>?_,q.2⟩,fun q=>⟨fun j h1 h2=>q.1 j (by omega) h2,q.2⟩⟩;by_cases e:j=i
   ·subst e;exact h
   ·exact q.1 j (by omega) h2
  have stop:¬okD l i→xE (eB.l2 l i true) ((∀j,i≤j→j<l.length→okD l j)∧l.length≤60):=fun h=>by rw[eB.l2_eq,cond_true];exact⟨false,rfl,by simp;intro q;exact absurd (q i (oM2 _) hlt) h⟩
  have hg:l.getD i ((0,0,()):Int×Int×Unit)=gD l i:=rfl;have hg1:l.getD (i-1) ((0,0,()):Int×Int×Unit)=gD l (i-1):=rfl;rw[eB.l1_eq];simp(disch:=omega)only[ss,hg];by_cases c1:(gD l i).1 < -53
  ·rw[dp c1,cond_true];exact stop fun q=>by have:=q.1;omega
  ·by_cases c2:(gD l i).1>53
   ·rw[dn c1,dp c2,cond_false,cond_true];exact stop fun q=>by have:=q.2.1;omega
   ·by_cases c3:(gD l i).2.1<0
    ·rw[dn c1,dn c2,dp c3,cond_false,cond_false,cond_true];exact stop fun q=>by have:=q.2.2.1;omega
    ·by_cases c4:(gD l i).2.1>6
     ·rw[dn c1,dn c2,dn c3,dp c4,cond_false,cond_false,cond_false,cond_true];exact stop fun q=>by have:=q.2.2.2.1;omega
     ·rw[dn c1,dn c2,dn c3,dn c4,cond_false,cond_false,cond_false,cond_false];by_cases h0:i=0
      ·simp(disch:=omega)only[ss];exact step ⟨by omega,by omega,by omega,by omega,fun q=>by omega⟩
      ·have w1:w6 ((i:Int)-1)=((i-1:Nat):Int):=qS (by omega) (by omega);simp(disch:=omega)only[ss,w1,hg1];by_cases c5:(gD l i).1<(gD l (i-1)).1
       ·rw[dp c5,cond_true];exact stop fun q=>by have:=q.2.2.2.2 (by omega);unfold dyLt at this;omega
       ·by_cases c6:(gD l i).1=(gD l (i-1)).1
        ·rw[dn c5,dp c6,cond_false,cond_true];by_cases c7:(gD l i).2.1≤(gD l (i-1)).2.1
         ·rw[dp c7];exact stop fun q=>by have:=q.2.2.2.2 (by omega);unfold dyLt at this;omega
         ·rw[dn c7];exact step ⟨by omega,by omega,by omega,by omega,fun _=>by unfold dyLt;omega⟩
        ·rw[dn c5,dn c6,cond_false,cond_false];exact step ⟨by omega,by omega,by omega,by omega,fun _=>by unfold dyLt;omega⟩
theorem lM1 (l:List Dy) (hl:l.length≤1000000):xE (eB.f l) (dwi l):=by have:=iJ2 l hl _ 0 rfl (iM2 _);rw[tM2]at this;rw[eB.f_eq];exact this.iff ⟨fun h=>⟨fun j h2=>h.1 j (iM2 _) h2,h.2⟩,fun h=>⟨fun j _ h2=>h.1 j h2,h.2⟩⟩
theorem iP1 (l:List Dy) (hl:l.length≤1000000):xE (cD.f l) (∃j,j<l.length∧(gD l j).1≠0):=by
 have key:∀(k i:Nat),l.length-i=k→i≤l.length→xE (cD.l1 l i) (∃j,i≤j∧j<l.length∧(gD l j).1≠0):=by
  intro k
  induction k with
  | zero=>
   intro i hk hil;rw[cD.l1_eq];simp(disch:=omega)only[ss];exact⟨false,rfl,by simp;intro j h1 h2;omega⟩
  | succ k ih=>
   intro i hk hil;have hlt:i<l.length:=by omega
   have hg:l.getD i ((0,0,()):Int×Int×Unit)=gD l i:=rfl;rw[cD.l1_eq];simp(disch:=omega)only[ss,hg];by_cases c:(gD l i).1=0
   ·rw[dp c];simp(disch:=omega)only[ss];refine(ih (i+1) (by omega) (by omega)).iff ⟨fun⟨j,h1,h2,h3⟩=>⟨j,by omega,h2,h3⟩,fun⟨j,h1,h2,h3⟩=>⟨j,?_,h2,h3⟩⟩;by_cases e:j=i
    ·subst e;exact absurd c h3
    ·omega
   ·rw[dn c];simp(disch:=omega)only[ss];exact⟨true,rfl,by simp;exact⟨i,oM2 _,hlt,c⟩⟩
 have:=key _ 0 rfl (iM2 _);rw[tM2]at this;rw[cD.f_eq];exact this.iff ⟨fun⟨j,_,h⟩=>⟨j,h⟩,fun⟨j,h⟩=>⟨j,iM2 _,h⟩⟩
abbrev Rl :=Int×Int×Int×Int×Int×Bool×List Int×List Int×List Int×List Int×List Dy×List Int×List Int×List Int×List Int×Unit
def Gate (f:Option (Bool×Unit)) (p:Prop) (K:Option (Bool×Unit)):Prop:=(p→f=K)∧(¬p→f=some (false,()))
theorem Gate.iff {f K:Option (Bool×Unit)} {p q:Prop} (h:Gate f p K) (e:p↔q):Gate f q K:=⟨fun x=>h.1 (e.2 x),fun x=>h.2 fun y=>x (e.1 y)⟩
theorem Gate.eq {f g K:Option (Bool×Unit)} {p:Prop} (h:Gate f p K) (k:Gate g p K):f=g:=by
 by_cases hp:p
 ·rw[h.1 hp,k.1 hp]
 ·rw[h.2 hp,k.2 hp]
theorem mI {f g K:Option (Bool×Unit)} {p q:Prop} (h:xE f p) (k:Gate g q K):Gate (f.bind fun t=>bif !t.1 then some (false,())else g) (p∧q) K:=by
 obtain⟨b,h1,h2⟩:=h;rw[h1];simp only[eM2]
 cases b with
 | true=>exact⟨fun x=>k.1 x.2,fun x=>k.2 fun y=>x ⟨h2.1 rfl,y⟩⟩
 | false=>exact⟨fun x=>absurd (h2.2 x.1) (by simp),fun _=>rfl⟩
theorem cK {f g:Option (Bool×Unit)} {p q:Prop} (h:xE f p) (k:xE g q):xE (f.bind fun t=>bif t.1 then g else some (false,())) (p∧q):=by
 obtain⟨b,h1,h2⟩:=h;obtain⟨c,k1,k2⟩:=k;rw[h1];simp only[eM2]
 cases b with
 | true=>rw[cond_true];exact⟨c,k1,⟨fun x=>⟨h2.1 rfl,k2.1 x⟩,fun x=>k2.2 x.2⟩⟩
 | false=>exact⟨false,rfl,⟨fun x=>by simp at x,fun x=>absurd (h2.2 x.1) (by simp)⟩⟩
theorem gP1 {f:Option (Bool×Unit)} {p:Prop} (h:xE f p):xE (f.bind fun t=>some (t.1,())) p:=by obtain⟨b,h1,h2⟩:=h;exact⟨b,by rw[h1];rfl,h2⟩
def numd (f:Int) (we:List Int) (l:List Dy) (j:Nat):Prop:=(gD l j).1≠0→f=2∨f=1∧we.length=0
section
variable (f iv ct un wk : Int) (en : Bool) (mo we yd md : List Int) (dy : List Dy) (ho mi se po : List Int)
theorem iZ1 (hl:dy.length≤1000000) (hw:we.length≤1000000):∀(k i:Nat),dy.length-i=k→i≤dy.length→(∀j,j<i→okD dy j) →
  xE (iB.l1 dy dy.length i f iv ct un wk en mo we yd md dy ho mi se po) ((∀j,i≤j→j<dy.length→okD dy j∧numd f we dy j)∧dy.length≤60):=by
 intro k
 induction k with
 | zero=>
  intro i hk hil hpre;rw[iB.l1_eq];simp(disch:=omega)only[ss];refine⟨_,rfl,?_⟩;rw[decide_eq_true_eq];exact⟨fun h=>⟨fun j h1 h2=>by omega,by omega⟩,fun h=>by omega⟩
 | succ k ih=>
  intro i hk hil hpre;have hlt:i<dy.length:=by omega
  have hg:dy.getD i ((0,0,()):Int×Int×Unit)=gD dy i:=rfl;have hg1:dy.getD (i-1) ((0,0,()):Int×Int×Unit)=gD dy (i-1):=rfl;have stop:¬(okD dy i∧numd f we dy i)→xE (some (false,())) ((∀j,i≤j→j<dy.length→okD dy j∧numd f we dy j)∧dy.length≤60):=fun h=>
   ⟨false,rfl,by simp;intro q;exact absurd (q i (oM2 _) hlt) h⟩
  have go:okD dy i→numd f we dy i→xE (iB.l3 dy dy.length i false f iv ct un wk en mo we yd md dy ho mi se po) ((∀j,i≤j→j<dy.length→okD dy j∧numd f we dy j)∧dy.length≤60):=fun h h'=>by
   rw[iB.l3_eq];simp(disch:=omega)only[ss];refine(ih (i+1) (by omega) (by omega) fun j hj=>?_).iff ⟨fun q=>⟨fun j h1 h2=>?_,q.2⟩,fun q=>⟨fun j h1 h2=>q.1 j (by omega) h2,q.2⟩⟩
   ·by_cases e:j=i
    ·subst e;exact h
    ·exact hpre j (by omega)
   ·by_cases e:j=i
    ·subst e;exact⟨h,h'⟩
    ·exact q.1 j (by omega) h2
  have l3t:iB.l3 dy dy.length i true f iv ct un wk en mo we yd md dy ho mi se po=some (false,()):=by rw[iB.l3_eq,cond_true]
  have bad:∀a b,¬okD dy i→xE (iB.l2 dy dy.length i true f iv ct un wk en mo we yd md dy ho mi se po a b) ((∀j,i≤j→j<dy.length→okD dy j∧numd f we dy j)∧dy.length≤60):=fun a b h=>by rw[iB.l2_eq,cond_true];exact stop fun q=>h q.1
  have good:okD dy i→xE (iB.l2 dy dy.length i false f iv ct un wk en mo we yd md dy ho mi se po (gD dy i).1 (gD dy i).2.1) ((∀j,i≤j→j<dy.length→okD dy j∧numd f we dy j)∧dy.length≤60):=fun h=>by
   rw[iB.l2_eq,cond_false];by_cases c1:(gD dy i).1=0
   ·simp(disch:=omega)only[ss];exact go h fun q=>absurd c1 q
   ·by_cases c2:f=2
    ·simp(disch:=omega)only[ss];exact go h fun _=>.inl c2
    ·by_cases c3:f=1
     ·by_cases c4:(we.length:Int)>0
      ·simp(disch:=omega)only[ss,l3t];exact stop fun q=>by rcases q.2 c1 with q | q <;> omega
      ·simp(disch:=omega)only[ss];exact go h fun _=>.inr ⟨c3,by omega⟩
     ·simp(disch:=omega)only[ss,l3t];exact stop fun q=>by rcases q.2 c1 with q | q <;> omega
  rw[iB.l1_eq];simp(disch:=omega)only[ss,hg];by_cases c1:(gD dy i).1 < -53
  ·rw[dp c1,cond_true];exact bad _ _ fun q=>by have:=q.1;omega
  ·by_cases c2:(gD dy i).1>53
   ·rw[dn c1,dp c2,cond_false,cond_true];exact bad _ _ fun q=>by have:=q.2.1;omega
   ·by_cases c3:(gD dy i).2.1<0
    ·rw[dn c1,dn c2,dp c3,cond_false,cond_false,cond_true];exact bad _ _ fun q=>by have:=q.2.2.1;omega
    ·by_cases c4:(gD dy i).2.1>6
     ·rw[dn c1,dn c2,dn c3,dp c4,cond_false,cond_false,cond_false,cond_true];exact bad _ _ fun q=>by have:=q.2.2.2.1;omega
     ·rw[dn c1,dn c2,dn c3,dn c4,cond_false,cond_false,cond_false,cond_false];by_cases h0:i=0
      ·simp(disch:=omega)only[ss];exact good ⟨by omega,by omega,by omega,by omega,fun q=>by omega⟩
      ·have hp:=hpre (i-1) (by omega);have b1:=hp.1;have b2:=hp.2.1;have b3:=hp.2.2.1;have b4:=hp.2.2.2.1;simp(disch:=omega)only[ss,hg1,tO.f_eq];by_cases c6:(gD dy (i-1)).1=(gD dy i).1
       ·simp(disch:=omega)only[ss];by_cases c7:(gD dy (i-1)).2.1-(gD dy i).2.1≥0
        ·rw[dp c7];exact bad _ _ fun q=>by have:=q.2.2.2.2 (by omega);unfold dyLt at this;omega
        ·rw[dn c7];exact good ⟨by omega,by omega,by omega,by omega,fun _=>by unfold dyLt;omega⟩
       ·simp(disch:=omega)only[ss];by_cases c7:(gD dy (i-1)).1-(gD dy i).1≥0
        ·rw[dp c7];exact bad _ _ fun q=>by have:=q.2.2.2.2 (by omega);unfold dyLt at this;omega
        ·rw[dn c7];exact good ⟨by omega,by omega,by omega,by omega,fun _=>by unfold dyLt;omega⟩
def lI1 :Prop:=wi mo 1 12 false∧wi we (-53) 53 false∧wi yd (-366) 366 false∧wi md (-31) 31 false∧wi ho 0 23 true∧wi mi 0 59 true∧wi se 0 59 true∧wi po (-366) 366 false∧(dwi dy ∧ ∀j,j<dy.length→numd f we dy j)
def kT :Prop:=mo.length≤100000∧we.length≤100000∧yd.length≤100000∧md.length≤100000∧dy.length≤100000∧ho.length≤100000∧mi.length≤100000∧se.length≤100000∧po.length≤100000
theorem jB1 (h:kT mo we yd md dy ho mi se po):xE (sH.f (f,iv,ct,un,wk,en,mo,we,yd,md,dy,ho,mi,se,po,())) (lI1 f mo we yd md dy ho mi se po):=by
 obtain⟨h1,h2,h3,h4,h5,h6,h7,h8,h9⟩:=h;have hD:=iZ1 f iv ct un wk en mo we yd md dy ho mi se po (by omega) (by omega) _ 0 rfl (iM2 _) fun j hj=>by omega
 rw[tM2]at hD;have hD2:xE (iB.f (f,iv,ct,un,wk,en,mo,we,yd,md,dy,ho,mi,se,po,())) (dwi dy ∧ ∀j,j<dy.length→numd f we dy j):=by rw[iB.f_eq];exact hD.iff ⟨fun q=>⟨⟨fun j hj=>(q.1 j (iM2 _) hj).1,q.2⟩,fun j hj=>(q.1 j (iM2 _) hj).2⟩,fun q=>⟨fun j _ hj=>⟨q.1.1 j hj,q.2 j hj⟩,q.1.2⟩⟩
 rw[sH.f_eq];exact cK (fH mo 1 12 false (by omega)) (cK (fH we (-53) 53 false (by omega)) (cK (fH yd (-366) 366 false (by omega)) (cK (fH md (-31) 31 false (by omega)) (cK (fH ho 0 23 true (by omega)) (cK (fH mi 0 59 true (by omega)) (cK (fH se 0 59 true (by omega)) (cK (fH po (-366) 366 false (by omega)) (gP1 hD2))))))))
def numP :Prop:=(1≤f∧f≤7∧1≤iv∧iv≤1000∧0≤ct∧ct≤4096∧0≤wk∧wk≤6)∧(en=true→(-62135596800≤un∧un≤253402300799)∧ct=0)∧(en=false→un=0)
theorem uS1 :xE (lC.f (f,iv,ct,un,wk,en,mo,we,yd,md,dy,ho,mi,se,po,())) (numP f iv ct un wk en):=by
 have l1t:lC.l1 true f iv ct un wk en mo we yd md dy ho mi se po=some (false,()):=by rw[lC.l1_eq,cond_true]
 have no:¬(1≤f∧f≤7∧1≤iv∧iv≤1000∧0≤ct∧ct≤4096∧0≤wk∧wk≤6)→xE (some (false,())) (numP f iv ct un wk en):=fun h=>⟨false,rfl,⟨fun q=>by simp at q,fun q=>absurd q.1 h⟩⟩
 rw[lC.f_eq];dsimp only;by_cases c:1≤f∧f≤7∧1≤iv∧iv≤1000∧0≤ct∧ct≤4096∧0≤wk∧wk≤6
 ·obtain⟨c1,c2,c3,c4,c5,c6,c7,c8⟩:=c;simp(disch:=omega)only[ss,lC.l1_eq,rM.f_eq]
  cases en with
  | true=>
   simp(disch:=omega)only[ss];by_cases d1:un ≥ -62135596800
   ·by_cases d2:un≤253402300799
    ·simp(disch:=omega)only[ss];refine⟨_,rfl,?_⟩;rw[decide_eq_true_eq];exact⟨fun q=>⟨⟨c1,c2,c3,c4,c5,c6,c7,c8⟩,fun _=>⟨⟨by omega,d2⟩,q⟩,fun q=>by cases q⟩,fun q=>(q.2.1 rfl).2⟩
    ·simp(disch:=omega)only[ss];exact⟨false,rfl,⟨fun q=>by simp at q,fun q=>by have:=(q.2.1 rfl).1;omega⟩⟩
   ·simp(disch:=omega)only[ss];exact⟨false,rfl,⟨fun q=>by simp at q,fun q=>by have:=(q.2.1 rfl).1;omega⟩⟩
  | false=>
   simp(disch:=omega)only[ss];refine⟨_,rfl,?_⟩;rw[decide_eq_true_eq];exact⟨fun q=>⟨⟨c1,c2,c3,c4,c5,c6,c7,c8⟩,(fun q=>by cases q),fun _=>q⟩,fun q=>q.2.2 rfl⟩
 ·have hb:∀{p:Prop} [Decidable p] {x:Option (Bool×Unit)},(¬p→xE x (numP f iv ct un wk en))→(p→xE (some (false,())) (numP f iv ct un wk en))→xE (bif decide p then(some (false,()))else x) (numP f iv ct un wk en):=fun {p} _ {x} h1 h2=>by
   by_cases hp:p
   ·rw[dp hp,cond_true];exact h2 hp
   ·rw[dn hp,cond_false];exact h1 hp
  have hn:=no c;rw[l1t];refine hb (fun d1=>hb (fun d2=>hb (fun d3=>hb (fun d4=>hb (fun d5=>hb (fun d6=>hb (fun d7=>?_) fun _=>hn) fun _=>hn) fun _=>hn) fun _=>hn) fun _=>hn) fun _=>hn) fun _=>hn
  have:wk>6:=by omega
  rw[dp this,l1t];exact hn
def mayP :Prop:=numP f iv ct un wk en∧lI1 f mo we yd md dy ho mi se po∧(0<we.length→f=1)∧(0<yd.length → ¬(2≤f∧f≤4))∧(0<md.length→f≠3)
theorem uC1 (h:kT mo we yd md dy ho mi se po):Gate (xA.f (f,iv,ct,un,wk,en,mo,we,yd,md,dy,ho,mi,se,po,())) (mayP f iv ct un wk en mo we yd md dy ho mi se po) (xA.l5 f iv ct un wk en mo we yd md dy ho mi se po):=by
 have l1t:xA.l1 true f iv ct un wk en mo we yd md dy ho mi se po=some (false,()):=by rw[xA.l1_eq,cond_true]
 have l2t:xA.l2 true f iv ct un wk en mo we yd md dy ho mi se po=some (false,()):=by rw[xA.l2_eq,cond_true]
 have l3t:xA.l3 true f iv ct un wk en mo we yd md dy ho mi se po=some (false,()):=by rw[xA.l3_eq,cond_true]
 have l4t:xA.l4 true f iv ct un wk en mo we yd md dy ho mi se po=some (false,()):=by rw[xA.l4_eq,cond_true]
 have l4f:xA.l4 false f iv ct un wk en mo we yd md dy ho mi se po=xA.l5 f iv ct un wk en mo we yd md dy ho mi se po:=by rw[xA.l4_eq,cond_false]
 have g3:Gate (xA.l3 false f iv ct un wk en mo we yd md dy ho mi se po) (0<md.length→f≠3) (xA.l5 f iv ct un wk en mo we yd md dy ho mi se po):=by
  rw[xA.l3_eq,cond_false];by_cases c:(md.length:Int)>0
  ·rw[dp c,cond_true];by_cases c2:f=3
   ·rw[dp c2,l4t];exact⟨fun q=>absurd c2 (q (by omega)),fun _=>rfl⟩
   ·rw[dn c2,l4f];exact⟨fun _=>rfl,fun q=>absurd (fun _=>c2) q⟩
  ·rw[dn c,cond_false,l4f];exact⟨fun _=>rfl,fun q=>absurd (fun x=>by omega) q⟩
 have g2:Gate (xA.l2 false f iv ct un wk en mo we yd md dy ho mi se po) ((0<yd.length → ¬(2≤f∧f≤4))∧(0<md.length→f≠3)) (xA.l5 f iv ct un wk en mo we yd md dy ho mi se po):=by
  rw[xA.l2_eq,cond_false];by_cases c:(yd.length:Int)>0
  ·rw[dp c,cond_true];by_cases c2:f≥2
   ·rw[dp c2,cond_true];by_cases c3:f≤4
    ·rw[dp c3,l3t];exact⟨fun q=>absurd ⟨by omega,c3⟩ (q.1 (by omega)),fun _=>rfl⟩
    ·rw[dn c3];exact g3.iff ⟨fun q=>⟨fun _=>by omega,q⟩,fun q=>q.2⟩
   ·rw[dn c2,cond_false];exact g3.iff ⟨fun q=>⟨fun _=>by omega,q⟩,fun q=>q.2⟩
  ·rw[dn c,cond_false];exact g3.iff ⟨fun q=>⟨fun x=>by omega,q⟩,fun q=>q.2⟩
 have g1:Gate (xA.l1 false f iv ct un wk en mo we yd md dy ho mi se po) ((0<we.length→f=1)∧(0<yd.length → ¬(2≤f∧f≤4))∧(0<md.length→f≠3)) (xA.l5 f iv ct un wk en mo we yd md dy ho mi se po):=by
  rw[xA.l1_eq,cond_false];by_cases c:(we.length:Int)>0
  ·rw[dp c,cond_true];by_cases c2:f=1
   ·rw[dp c2,oN2];exact g2.iff ⟨fun q=>⟨fun _=>c2,q⟩,fun q=>q.2⟩
   ·rw[dn c2,gO2,l2t];exact⟨fun q=>absurd (q.1 (by omega)) c2,fun _=>rfl⟩
  ·rw[dn c,cond_false];exact g2.iff ⟨fun q=>⟨fun x=>by omega,q⟩,fun q=>q.2⟩
 have hL:Gate ((sH.f (f,iv,ct,un,wk,en,mo,we,yd,md,dy,ho,mi,se,po,())).bind fun t2=>xA.l1 (!t2.1) f iv ct un wk en mo we yd md dy ho mi se po) (lI1 f mo we yd md dy ho mi se po∧(0<we.length→f=1)∧(0<yd.length → ¬(2≤f∧f≤4))∧(0<md.length→f≠3)) (xA.l5 f iv ct un wk en mo we yd md dy ho mi se po):=by
  have:=mI (jB1 f iv ct un wk en mo we yd md dy ho mi se po h) g1;obtain⟨b,h1,_⟩:=jB1 f iv ct un wk en mo we yd md dy ho mi se po h;rw[h1]at this ⊢;simp only[eM2]at this ⊢
  cases b with
  | true=>exact this
  | false=>rw[gO2,l1t];exact this
 rw[xA.f_eq];have:=mI (uS1 f iv ct un wk en mo we yd md dy ho mi se po) hL;simp only[l1t];exact this
end
theorem dT {K:Option (Bool×Unit)} {p:Prop} (h:¬p):Gate (some (false,())) p K:=⟨fun q=>absurd q h,fun _=>rfl⟩
theorem cJ2 (l:List Int) (hi:Int) (z:Bool):wi l 1 hi z↔wi l 1 hi false:=by
 unfold wi;constructor
 ·exact fun h=>⟨fun j hj=>⟨⟨(h.1 j hj).1.1,(h.1 j hj).1.2.1,fun q=>by have:=(h.1 j hj).1.1;omega⟩,(h.1 j hj).2⟩,h.2⟩
 ·exact fun h=>⟨fun j hj=>⟨⟨(h.1 j hj).1.1,(h.1 j hj).1.2.1,fun q=>by have:=(h.1 j hj).1.1;omega⟩,(h.1 j hj).2⟩,h.2⟩
section
variable (f iv ct un wk : Int) (en : Bool) (mo we yd md : List Int) (dy : List Dy) (ho mi se po : List Int)
theorem lL2 (h:kT mo we yd md dy ho mi se po):Gate (bA.f (f,iv,ct,un,wk,en,mo,we,yd,md,dy,ho,mi,se,po,())) (mayP f iv ct un wk en mo we yd md dy ho mi se po) (bA.l8 f iv ct un wk en mo we yd md dy ho mi se po):=by
 obtain⟨h1,h2,h3,h4,h5,h6,h7,h8,h9⟩:=h;have l1t:bA.l1 true f iv ct un wk en mo we yd md dy ho mi se po=some (false,()):=by rw[bA.l1_eq,cond_true]
 have l2t:bA.l2 true f iv ct un wk en mo we yd md dy ho mi se po=some (false,()):=by rw[bA.l2_eq,cond_true]
 have l2f:bA.l2 false f iv ct un wk en mo we yd md dy ho mi se po=bA.l3 f iv ct un wk en mo we yd md dy ho mi se po:=by rw[bA.l2_eq,cond_false]
 have l4t:bA.l4 true f iv ct un wk en mo we yd md dy ho mi se po=some (false,()):=by rw[bA.l4_eq,cond_true]
 have l5t:bA.l5 true f iv ct un wk en mo we yd md dy ho mi se po=some (false,()):=by rw[bA.l5_eq,cond_true]
 have l5f:bA.l5 false f iv ct un wk en mo we yd md dy ho mi se po=bA.l6 f iv ct un wk en mo we yd md dy ho mi se po:=by rw[bA.l5_eq,cond_false]
 have l7t:bA.l7 true f iv ct un wk en mo we yd md dy ho mi se po=some (false,()):=by rw[bA.l7_eq,cond_true]
 have l7f:bA.l7 false f iv ct un wk en mo we yd md dy ho mi se po=bA.l8 f iv ct un wk en mo we yd md dy ho mi se po:=by rw[bA.l7_eq,cond_false]
 have g6:Gate (bA.l6 f iv ct un wk en mo we yd md dy ho mi se po) (∀j,j<dy.length→numd f we dy j) (bA.l8 f iv ct un wk en mo we yd md dy ho mi se po):=by
  rw[bA.l6_eq];obtain⟨b,e1,e2⟩:=iP1 dy (by omega);rw[e1];simp only[eM2]
  cases b with
  | false=>
   rw[cond_false,l7f];have:∀j,j<dy.length→numd f we dy j:=fun j hj hn=>absurd (e2.2 ⟨j,hj,hn⟩) (by simp)
   exact⟨fun _=>rfl,fun q=>absurd this q⟩
  | true=>
   obtain⟨j,hj,hn⟩:=e2.1 rfl;rw[cond_true];by_cases c2:f=2
   ·simp(disch:=omega)only[ss,l7f];exact⟨fun _=>rfl,fun q=>absurd (fun _ _ _=>.inl c2) q⟩
   ·by_cases c3:f=1
    ·by_cases c4:(we.length:Int)>0
     ·simp(disch:=omega)only[ss,l7t];exact dT fun q=>by rcases q j hj hn with q | q <;> omega
     ·simp(disch:=omega)only[ss,l7f];exact⟨fun _=>rfl,fun q=>absurd (fun _ _ _=>.inr ⟨c3,by omega⟩) q⟩
    ·simp(disch:=omega)only[ss,l7t];exact dT fun q=>by rcases q j hj hn with q | q <;> omega
 have g4:Gate (bA.l4 false f iv ct un wk en mo we yd md dy ho mi se po) (((0<we.length→f=1)∧(0<yd.length → ¬(2≤f∧f≤4))∧(0<md.length→f≠3)) ∧ ∀j,j<dy.length→numd f we dy j) (bA.l8 f iv ct un wk en mo we yd md dy ho mi se po):=by
  have hm:((0<we.length→f=1)∧(0<yd.length → ¬(2≤f∧f≤4)))→Gate (bif decide ((md.length:Int)>0)then(bA.l5 (decide (f=3)) f iv ct un wk en mo we yd md dy ho mi se po)else(bA.l5 false f iv ct un wk en mo we yd md dy ho mi se po)) (((0<we.length→f=1)∧(0<yd.length → ¬(2≤f∧f≤4))∧(0<md.length→f≠3)) ∧ ∀j,j<dy.length→numd f we dy j) (bA.l8 f iv ct un wk en mo we yd md dy ho mi se po):=fun hh=>by
   by_cases c:(md.length:Int)>0
   ·rw[dp c,cond_true];by_cases c2:f=3
    ·rw[dp c2,l5t];exact dT fun q=>q.1.2.2 (by omega) c2
    ·rw[dn c2,l5f];exact g6.iff ⟨fun q=>⟨⟨hh.1,hh.2,fun _=>c2⟩,q⟩,fun q=>q.2⟩
   ·rw[dn c,cond_false,l5f];exact g6.iff ⟨fun q=>⟨⟨hh.1,hh.2,fun x=>by omega⟩,q⟩,fun q=>q.2⟩
  have hy:(0<we.length→f=1)→Gate (bif decide ((yd.length:Int)>0)then(bif decide (f≥2)then(bif decide (f≤4)then(bA.l5 true f iv ct un wk en mo we yd md dy ho mi se po)else(bif decide ((md.length:Int)>0)then(bA.l5 (decide (f=3)) f iv ct un wk en mo we yd md dy ho mi se po)else(bA.l5 false f iv ct un wk en mo we yd md dy ho mi se po)))else(bif decide ((md.length:Int)>0)then(bA.l5 (decide (f=3)) f iv ct un wk en mo we yd md dy ho mi se po)else(bA.l5 false f iv ct un wk en mo we yd md dy ho mi se po)))else(bif decide ((md.length:Int)>0)then(bA.l5 (decide (f=3)) f iv ct un wk en mo we yd md dy ho mi se po)else(bA.l5 false f iv ct un wk en mo we yd md dy ho mi se po))) (((0<we.length→f=1)∧(0<yd.length → ¬(2≤f∧f≤4))∧(0<md.length→f≠3)) ∧ ∀j,j<dy.length→numd f we dy j) (bA.l8 f iv ct un wk en mo we yd md dy ho mi se po):=fun hh=>by
   by_cases c:(yd.length:Int)>0
   ·rw[dp c,cond_true];by_cases c2:f≥2
    ·rw[dp c2,cond_true];by_cases c3:f≤4
     ·rw[dp c3,cond_true,l5t];exact dT fun q=>q.1.2.1 (by omega) ⟨by omega,c3⟩
     ·rw[dn c3,cond_false];exact hm ⟨hh,fun _=>by omega⟩
    ·rw[dn c2,cond_false];exact hm ⟨hh,fun _=>by omega⟩
   ·rw[dn c,cond_false];exact hm ⟨hh,fun x=>by omega⟩
  rw[bA.l4_eq,cond_false];by_cases c:(we.length:Int)>0
  ·rw[dp c,cond_true];by_cases c2:f=1
   ·rw[dp c2,oN2,cond_false];exact hy fun _=>c2
   ·rw[dn c2,gO2,cond_true,l5t];exact dT fun q=>c2 (q.1.1 (by omega))
  ·rw[dn c,cond_false];exact hy fun x=>by omega
 have g3:Gate (bA.l3 f iv ct un wk en mo we yd md dy ho mi se po) (wi mo 1 12 true∧wi we (-53) 53 false∧wi yd (-366) 366 false∧wi md (-31) 31 false∧wi po (-366) 366 false∧wi ho 0 23 true∧wi mi 0 59 true∧wi se 0 59 true∧dwi dy∧(((0<we.length→f=1)∧(0<yd.length → ¬(2≤f∧f≤4))∧(0<md.length→f≠3)) ∧ ∀j,j<dy.length→numd f we dy j)) (bA.l8 f iv ct un wk en mo we yd md dy ho mi se po):=by
  have hlast:∀{q:Prop},Gate (bA.l4 false f iv ct un wk en mo we yd md dy ho mi se po) q (bA.l8 f iv ct un wk en mo we yd md dy ho mi se po)→Gate ((eB.f dy).bind fun t10=>bA.l4 (!t10.1) f iv ct un wk en mo we yd md dy ho mi se po) (dwi dy∧q) (bA.l8 f iv ct un wk en mo we yd md dy ho mi se po):=fun {q} hq=>by
   have:=mI (lM1 dy (by omega)) hq;obtain⟨b,e1,_⟩:=lM1 dy (by omega);rw[e1]at this ⊢;simp only[eM2]at this ⊢
   cases b with
   | true=>exact this
   | false=>rw[gO2,l4t];exact this
  rw[bA.l3_eq];simp only[l4t];exact mI (qG mo 1 12 true (by omega)) (mI (qG we (-53) 53 false (by omega)) (mI (qG yd (-366) 366 false (by omega)) (mI (qG md (-31) 31 false (by omega)) (mI (qG po (-366) 366 false (by omega)) (mI (qG ho 0 23 true (by omega)) (mI (qG mi 0 59 true (by omega)) (mI (qG se 0 59 true (by omega)) (hlast g4))))))))
 have g3':=g3.iff (q:=lI1 f mo we yd md dy ho mi se po∧(0<we.length→f=1)∧(0<yd.length → ¬(2≤f∧f≤4))∧(0<md.length→f≠3)) (by
  rw[cJ2 mo 12 true];unfold lI1;constructor
  ·rintro⟨a1,a2,a3,a4,a5,a6,a7,a8,a9,a10,a11⟩;exact⟨⟨a1,a2,a3,a4,a6,a7,a8,a5,a9,a11⟩,a10⟩
  ·rintro⟨⟨a1,a2,a3,a4,a6,a7,a8,a5,a9,a11⟩,a10⟩
   exact⟨a1,a2,a3,a4,a5,a6,a7,a8,a9,a10,a11⟩)
 have no:¬numP f iv ct un wk en→Gate (some (false,())) (mayP f iv ct un wk en mo we yd md dy ho mi se po) (bA.l8 f iv ct un wk en mo we yd md dy ho mi se po):=fun hn=>dT fun q=>hn q.1
 have yes:numP f iv ct un wk en→Gate (bA.l3 f iv ct un wk en mo we yd md dy ho mi se po) (mayP f iv ct un wk en mo we yd md dy ho mi se po) (bA.l8 f iv ct un wk en mo we yd md dy ho mi se po):=fun hn=>g3'.iff ⟨fun q=>⟨hn,q⟩,fun q=>q.2⟩
 rw[bA.f_eq];dsimp only;by_cases c:1≤f∧f≤7∧1≤iv∧iv≤1000∧0≤ct∧ct≤4096∧0≤wk∧wk≤6
 ·have c':=c;obtain⟨c1,c2,c3,c4,c5,c6,c7,c8⟩:=c;simp(disch:=omega)only[ss,bA.l1_eq,gH.f_eq]
  cases en with
  | true=>
   simp(disch:=omega)only[ss];by_cases d0:ct>0
   ·simp(disch:=omega)only[ss,l2t];exact no fun q=>by have:=(q.2.1 rfl).2;omega
   ·by_cases d1:un ≥ -62135596800
    ·by_cases d2:un<253402300800
     ·simp(disch:=omega)only[ss,l2f];exact yes ⟨c',fun _=>⟨⟨by omega,by omega⟩,by omega⟩,fun q=>by cases q⟩
     ·simp(disch:=omega)only[ss,l2t];exact no fun q=>by have:=(q.2.1 rfl).1;omega
    ·simp(disch:=omega)only[ss,l2t];exact no fun q=>by have:=(q.2.1 rfl).1;omega
  | false=>
   by_cases d0:un=0
   ·simp(disch:=omega)only[ss,l2f];exact yes ⟨c',(fun q=>by cases q),fun _=>d0⟩
   ·simp(disch:=omega)only[ss,l2t];exact no fun q=>d0 (q.2.2 rfl)
 ·have hn:=no fun q=>c q.1
  have hb:∀{p:Prop} [Decidable p] {x:Option (Bool×Unit)},(¬p→Gate x (mayP f iv ct un wk en mo we yd md dy ho mi se po) (bA.l8 f iv ct un wk en mo we yd md dy ho mi se po))→Gate (bif decide p then(some (false,()))else x) (mayP f iv ct un wk en mo we yd md dy ho mi se po) (bA.l8 f iv ct un wk en mo we yd md dy ho mi se po):=fun {p} _ {x} h1=>by
   by_cases hp:p
   ·rw[dp hp,cond_true];exact hn
   ·rw[dn hp,cond_false];exact h1 hp
  rw[l1t];refine hb fun d1=>hb fun d2=>hb fun d3=>hb fun d4=>hb fun d5=>hb fun d6=>hb fun d7=>?_
  have:wk>6:=by omega
  rw[dp this,l1t];exact hn
theorem vV1 :xA.l5 f iv ct un wk en mo we yd md dy ho mi se po=bA.l8 f iv ct un wk en mo we yd md dy ho mi se po:=by
 have e7:xA.l7 f iv ct un wk en mo we yd md dy ho mi se po=bA.l10 f iv ct un wk en mo we yd md dy ho mi se po:=by rw[xA.l7_eq,bA.l10_eq]
 have e6:∀b,xA.l6 b f iv ct un wk en mo we yd md dy ho mi se po=bA.l9 b f iv ct un wk en mo we yd md dy ho mi se po:=fun b=>by rw[xA.l6_eq,bA.l9_eq,e7]
 rw[xA.l5_eq,bA.l8_eq,e6,e6]
end
theorem kE1 (r:Rl) (h:kT r.2.2.2.2.2.2.1 r.2.2.2.2.2.2.2.1 r.2.2.2.2.2.2.2.2.1 r.2.2.2.2.2.2.2.2.2.1 r.2.2.2.2.2.2.2.2.2.2.1 r.2.2.2.2.2.2.2.2.2.2.2.1 r.2.2.2.2.2.2.2.2.2.2.2.2.1 r.2.2.2.2.2.2.2.2.2.2.2.2.2.1 r.2.2.2.2.2.2.2.2.2.2.2.2.2.2.1):xA.f r=bA.f r:=by obtain⟨f,iv,ct,un,wk,en,mo,we,yd,md,dy,ho,mi,se,po,⟨⟩⟩:=r;have g1:=uC1 f iv ct un wk en mo we yd md dy ho mi se po h;rw[vV1]at g1;exact g1.eq (lL2 f iv ct un wk en mo we yd md dy ho mi se po h)
theorem qC1 (r:Rl) (h:kT r.2.2.2.2.2.2.1 r.2.2.2.2.2.2.2.1 r.2.2.2.2.2.2.2.2.1 r.2.2.2.2.2.2.2.2.2.1 r.2.2.2.2.2.2.2.2.2.2.1 r.2.2.2.2.2.2.2.2.2.2.2.1 r.2.2.2.2.2.2.2.2.2.2.2.2.1 r.2.2.2.2.2.2.2.2.2.2.2.2.2.1 r.2.2.2.2.2.2.2.2.2.2.2.2.2.2.1):∃b,xA.f r=some (b,()):=by
 obtain⟨f,iv,ct,un,wk,en,mo,we,yd,md,dy,ho,mi,se,po,⟨⟩⟩:=r;have g1:=uC1 f iv ct un wk en mo we yd md dy ho mi se po h;by_cases hp:mayP f iv ct un wk en mo we yd md dy ho mi se po
 ·rw[g1.1 hp,xA.l5_eq];have e7:∃b,xA.l7 f iv ct un wk en mo we yd md dy ho mi se po=some (b,()):=by
   rw[xA.l7_eq];cases decide (f>4)with
   | true=>exact⟨_,rfl⟩
   | false=>exact⟨_,rfl⟩
  have e6:∀c,∃b,xA.l6 c f iv ct un wk en mo we yd md dy ho mi se po=some (b,()):=fun c=>by
   rw[xA.l6_eq]
   cases c with
   | true=>exact⟨_,rfl⟩
   | false=>exact e7
  cases decide ((po.length:Int)>0)with
  | true=>exact e6 _
  | false=>exact e6 _
 ·exact⟨false,g1.2 hp⟩
def zT (y:Int):Bool:=decide (y%4=0)&&(!decide (y%100=0)||decide (y%400=0))
def mlen (y m:Int):Int:=if m=2 then(if zT y=true then 29 else 28)else if m=4∨m=6∨m=9∨m=11 then 30 else if 1≤m∧m≤12 then 31 else 0
def cumT (m:Int):Int:=if m≤1 then 0 else if m=2 then 31 else if m=3 then 59 else if m=4 then 90 else if m=5 then 120 else if m=6 then 151 else if m=7 then 181 else if m=8 then 212 else if m=9 then 243 else if m=10 then 273 else if m=11 then 304 else if m=12 then 334 else 365
def cum (y m:Int):Int:=cumT m+if 3≤m∧zT y=true then 1 else 0
def fst_ (y:Int):Int:=365*(y-1)+(y-1)/4-(y-1)/100+(y-1)/400-719162
theorem tmn {n:Int} (h:0≤n) (k:Int):Int.tmod n k=n%k:=dP2 h
theorem tdn {n:Int} (h:0≤n) (k:Int):Int.tdiv n k=n/k:=Int.tdiv_eq_ediv_of_nonneg h
theorem fI1 (y:Int) (hy:0≤y):uK.f y=some (zT y,()):=by
 rw[uK.f_eq];simp only[tmn hy];unfold zT;by_cases h1:y%4=0
 ·by_cases h2:y%100=0
  ·by_cases h3:y%400=0
   ·simp(disch:=omega)only[ss]
   ·simp(disch:=omega)only[ss]
  ·simp(disch:=omega)only[ss]
 ·simp(disch:=omega)only[ss]
theorem yP1 (y:Int) (hy:0≤y):wJ.f y=some (zT y,()):=by have:=fI1 y hy;rw[uK.f_eq]at this;rw[wJ.f_eq];exact this
theorem oQ (y m:Int) (hy:0≤y):cC.f y m=some (mlen y m,()):=by
 have hL:=fI1 y hy;rw[cC.f_eq];unfold mlen;by_cases h2:m=2
 ·subst h2;simp(disch:=omega)only[ss,cC.l1_eq,hL];cases zT y <;> rfl
 ·rw[if_neg h2];by_cases h4:m=4∨m=6∨m=9∨m=11
  ·rw[if_pos h4];rcases h4 with rfl | rfl | rfl | rfl
   all_goals (simp(disch:=omega)only[ss,cC.l1_eq])
  ·rw[if_neg h4];by_cases hr:1≤m∧m≤12
   ·rw[if_pos hr];have:m=1∨m=3∨m=5∨m=7∨m=8∨m=10∨m=12:=by omega
    rcases this with rfl | rfl | rfl | rfl | rfl | rfl | rfl
    all_goals (simp(disch:=omega)only[ss,cC.l1_eq,cC.l2_eq])
   ·rw[if_neg hr];simp(disch:=omega)only[ss,cC.l1_eq,cC.l2_eq]
theorem rL (y m:Int) (hy:0≤y):dB.f y m=some (mlen y m,()):=by
 have hL:=yP1 y hy;rw[dB.f_eq];unfold mlen;by_cases h2:m=2
 ·subst h2;simp(disch:=omega)only[ss,dB.l1_eq,dB.l2_eq,hL];cases zT y <;> rfl
 ·rw[if_neg h2];by_cases h4:m=4∨m=6∨m=9∨m=11
  ·rw[if_pos h4];rcases h4 with rfl | rfl | rfl | rfl
   all_goals (simp(disch:=omega)only[ss,dB.l1_eq,dB.l2_eq])
  ·rw[if_neg h4];by_cases hr:1≤m∧m≤12
   ·rw[if_pos hr];have:m=1∨m=3∨m=5∨m=7∨m=8∨m=10∨m=12:=by omega
    rcases this with rfl | rfl | rfl | rfl | rfl | rfl | rfl
    all_goals (simp(disch:=omega)only[ss,dB.l1_eq])
   ·rw[if_neg hr];simp(disch:=omega)only[ss,dB.l1_eq,dB.l2_eq]
theorem mQ (y m:Int):0≤mlen y m∧mlen y m≤31∧(0<mlen y m→1≤m∧m≤12):=by
 unfold mlen;split
 ·cases zT y <;> (simp;omega)
 ·split
  ·omega
  ·split <;> omega
theorem nN (y m:Int) (h1:1≤m) (h2:m≤12):cum y (m+1)=cum y m+mlen y m:=by
 have:m=1∨m=2∨m=3∨m=4∨m=5∨m=6∨m=7∨m=8∨m=9∨m=10∨m=11∨m=12:=by omega
 unfold cum mlen cumT;cases zT y <;> (rcases this with rfl | rfl | rfl | rfl | rfl | rfl | rfl | rfl | rfl | rfl | rfl | rfl <;> simp)
theorem tN (y m:Int):0≤cum y m∧cum y m≤366:=by unfold cum cumT;split <;> (try split) <;> (repeat' split) <;> omega
def vM (y m d:Int):Bool:=decide (1≤y)&&decide (y≤9999)&&decide (1≤d)&&decide (d≤mlen y m)
theorem bP1 (y m d:Int):gL.f y m d=some (vM y m d,())∧tI.f y m d=some (vM y m d,()):=by
 rw[gL.f_eq,jP.f_eq,tI.f_eq];unfold vM;by_cases h1:1≤y
 ·have hL:=oQ y m (by omega);have hV:=rL y m (by omega);by_cases h2:y≤9999
  ·by_cases h3:1≤d
   ·simp(disch:=omega)only[ss,hL,hV,ge_iff_le];exact⟨trivial,trivial⟩
   ·simp(disch:=omega)only[ss,hL,hV,ge_iff_le];exact⟨trivial,trivial⟩
  ·simp(disch:=omega)only[ss,ge_iff_le];exact⟨trivial,trivial⟩
 ·simp(disch:=omega)only[ss,ge_iff_le];exact⟨trivial,trivial⟩
theorem gU (y m d:Int) (hy:1≤y) (hy2:y≤10000) (hm:1≤m) (hm2:m≤12) (hd:1≤d) (hd2:d≤31):eG.f y m d=some (fst_ y+d-1+cum y m,()):=by
 rw[eG.f_eq];by_cases h3:m<3
 ·simp(disch:=omega)only[ss,tdn (show 0≤y-1+400 by omega),tdn (show 0≤153*(m+12-3)+2 by omega)]
  congr 2
  unfold fst_ cum cumT;have:m=1∨m=2:=by omega
  rcases this with rfl | rfl
  ·simp;omega
  ·simp;omega
 ·simp(disch:=omega)only[ss,tdn (show 0≤y+400 by omega),tdn (show 0≤153*(m-3)+2 by omega)]
  congr 2
  unfold fst_ cum cumT
  have e:(if 3≤m∧zT y=true then(1:Int)else 0)=y/4-(y-1)/4-(y/100-(y-1)/100)+(y/400-(y-1)/400):=by
   unfold zT;by_cases h1:y%4=0
   ·by_cases h2:y%100=0
    ·by_cases h5:y%400=0
     ·rw[if_pos ⟨by omega,by simp[h1,h2,h5]⟩];omega
     ·rw[if_neg (by simp[h1,h2,h5])];omega
    ·rw[if_pos ⟨by omega,by simp[h1,h2]⟩];omega
   ·rw[if_neg (by simp[h1])];omega
  rw[e];have:m=3∨m=4∨m=5∨m=6∨m=7∨m=8∨m=9∨m=10∨m=11∨m=12:=by omega
  rcases this with rfl | rfl | rfl | rfl | rfl | rfl | rfl | rfl | rfl | rfl
  all_goals (simp;omega)
theorem uZ (n k:Int) (hn:0≤n) (hn2:n≤1000000) (hk:0<k) (hk2:k≤1000):iG.f n k=some (n/k,()):=by have h1:0≤n%k:=Int.emod_nonneg n (by omega);have h2:0≤n/k:=Int.ediv_nonneg hn (by omega);have h3:n/k≤n:=Int.ediv_le_self k hn;rw[iG.f_eq,tmn hn,tdn hn];simp(disch:=omega)only[ss]
theorem sK (y:Int) (hy:1≤y) (hy2:y≤10001):gF.f y=some (fst_ y,()):=by rw[gF.f_eq];have hw:w6 (y-1)=y-1:=wr (by omega) (by omega);rw[hw,uZ (y-1) 4 (by omega) (by omega) (by omega) (by omega),uZ (y-1) 100 (by omega) (by omega) (by omega) (by omega),uZ (y-1) 400 (by omega) (by omega) (by omega) (by omega)];simp(disch:=omega)only[ss];rfl
theorem lU (y:Int) (hy:1≤y) (hy2:y≤10001): -1000000≤fst_ y∧fst_ y≤4000000:=by unfold fst_;omega
theorem rY1 (y m:Int) (hy:0≤y) (hm:m≤12):∀(k:Nat) (i n:Int),m-i=k→1≤i → -10000000≤n→n+cum y m-cum y i≤10000000 → -10000000≤n∧n≤10000000→vE.l1 y m n i=some (n+cum y m-cum y i,0,()):=by
 intro k
 induction k with
 | zero=>
  intro i n hk hi h1 h2 h3;have e:i=m:=by omega
  subst e;rw[vE.l1_eq];simp(disch:=omega)only[ss]
  congr 2
  omega
 | succ k ih=>
  intro i n hk hi h1 h2 h3;have hL:=rL y i hy;have hb:=mQ y i;have hc:=nN y i hi (by omega);have hd:=tN y m;have he:=tN y i;have hg:=tN y (i+1);rw[vE.l1_eq];by_cases hn2:n+mlen y i≤10000000
  ·simp(disch:=omega)only[ss,hL];rw[ih (i+1) (n+mlen y i) (by omega) (by omega) (by omega) (by omega) ⟨by omega,hn2⟩]
   congr 2
   omega
  ·-- the bound holds where it is used
   simp(disch:=omega)only[ss,hL];have hm':cum y (i+1)≤cum y m:=by
    have mono:∀(j:Nat) (a:Int),1≤a→a+j≤12→cum y a≤cum y (a+j):=by
     intro j
     induction j with
     | zero=>intro a _ _;simp
     | succ j ihj=>
      intro a ha hj;have:=ihj a ha (by omega);have h5:=nN y (a+j) (by omega) (by omega);have h6:=mQ y (a+j);rw[show a+((j+1:Nat):Int)=a+(j:Int)+1 by omega,h5];omega
    have:=mono k (i+1) (by omega) (by omega);rwa[show i+1+(k:Int)=m by omega]at this
   omega
theorem nH1 (y m d:Int):nM.f y m d=some (if vM y m d=true then(fst_ y+d-1+cum y m,0,())else(0,1,()))∧vE.f y m d=some (if vM y m d=true then(fst_ y+d-1+cum y m,0,())else(0,1,())):=by
 obtain⟨h1,h2⟩:=bP1 y m d;rw[nM.f_eq,vE.f_eq,h1,h2]
 cases hv:vM y m d with
 | false=>exact⟨rfl,rfl⟩
 | true=>
  unfold vM at hv;simp only[fM2,decide_eq_true_eq]at hv;obtain⟨⟨⟨h3,h4⟩,h5⟩,h6⟩:=hv;have hb:=mQ y m;have hm:=hb.2.2 (by omega);have hN:=gU y m d h3 (by omega) hm.1 hm.2 h5 (by omega);have hF:=sK y h3 (by omega);have hfb:=lU y h3 (by omega);have hcb:=tN y m;have hc1:cum y 1=0:=rfl;obtain⟨k,hk⟩:=gN2 (show 0≤m-1 by omega);have hD:=rY1 y m (by omega) hm.2 k 1 (fst_ y+d-1) hk (by omega) (by omega) (by omega) ⟨by omega,by omega⟩;rw[if_pos rfl];constructor
  ·simp(disch:=omega)only[ss,hN]
  ·simp(disch:=omega)only[ss,hF,hD]
   congr 2
   omega
theorem eG1 (y m d h mi s:Int) (hh:0≤h∧h≤10000) (hm:0≤mi∧mi≤10000) (hs:0≤s∧s≤10000):∃t e,dD.f y m d h mi s=some (t,e,())∧pC.f y m d h mi s=some (t,e,()):=by
 obtain⟨h1,h2⟩:=nH1 y m d;rw[dD.f_eq,pC.f_eq,h1,h2]
 cases hv:vM y m d with
 | false=>
  refine⟨0,1,?_,?_⟩
  ·simp(disch:=omega)only[ss,mN2,if_false,dD.l1_eq]
  ·simp(disch:=omega)only[ss,mN2,if_false,pC.l1_eq]
 | true=>
  unfold vM at hv;simp only[fM2,decide_eq_true_eq]at hv;obtain⟨⟨⟨h3,h4⟩,h5⟩,h6⟩:=hv;have hb:=mQ y m;have hfb:=lU y h3 (by omega);have hcb:=tN y m;generalize fst_ y+d-1+cum y m=n at *;have hn: -20000000≤n∧n≤20000000∨True:=.inr trivial;by_cases c1:h>23
  ·exact⟨0,1,by simp(disch:=omega)only[ss,if_true,dD.l1_eq],by simp(disch:=omega)only[ss,if_true,pC.l1_eq]⟩
  ·by_cases c2:mi>59
   ·exact⟨0,1,by simp(disch:=omega)only[ss,if_true,dD.l1_eq],by simp(disch:=omega)only[ss,if_true,pC.l1_eq]⟩
   ·by_cases c3:s>59
    ·exact⟨0,1,by simp(disch:=omega)only[ss,if_true,dD.l1_eq],by simp(disch:=omega)only[ss,if_true,pC.l1_eq]⟩
    ·refine⟨_,0,by simp(disch:=omega)only[ss,if_true,dD.l1_eq];rfl,?_⟩;simp(disch:=omega)only[ss,if_true,pC.l1_eq];rw[Int.mul_comm h 3600,Int.mul_comm mi 60]
theorem nJ :∀(l:List UInt8) (a:Nat),dval a l=a*10 ^ l.length+dval 0 l
 | [],a=>by show a=a*10 ^ 0+0;omega
 | c::l,a=>by
  show dval (10*a+(c.toNat-48)) l=_+dval (10*0+(c.toNat-48)) l;rw[Nat.mul_zero,oO2,nJ l (10*a+(c.toNat-48)),nJ l (c.toNat-48),kM2,Nat.pow_succ,Nat.add_mul];have:a*(10 ^ l.length*10)=10*a*10 ^ l.length:=by rw[Nat.mul_comm (10 ^ l.length) 10,←Nat.mul_assoc,Nat.mul_comm a 10]
  omega
theorem wQ (l:List UInt8) (h:∀c∈l,dig c):dval 0 l<10 ^ l.length:=by
 suffices g:∀(l:List UInt8) (a b:Nat),(∀c∈l,dig c)→a<b→dval a l<b*10 ^ l.length by have:=g l 0 1 h (by omega);omega
 intro l
 induction l with
 | nil=>intro a b _ h;show a<b*1;omega
 | cons c l ih=>
  intro a b hd hab;have hc:=hd c mM2;unfold dig at hc;have:=ih (10*a+(c.toNat-48)) (10*b) (fun x hx=>hd x (lM2 _ hx)) (by omega);show dval (10*a+(c.toNat-48)) l<_;rw[kM2,Nat.pow_succ,Nat.mul_comm (10 ^ l.length) 10,←Nat.mul_assoc,Nat.mul_comm b 10];exact this
def digs (l:List UInt8):Prop:=∀c∈l,dig c
theorem u8w {c:UInt8} (h:dig c):IntKind.u8.wrap ((c.toNat:Int)-48)=((c.toNat-48:Nat):Int):=by unfold dig at h;rw[Go.IntWalk.u8_in _ ⟨by omega,by omega⟩];omega
theorem dV1 (s:List UInt8) (hs:s.length≤10):∀(k i v:Nat),s.length-i=k→i≤s.length→v<10 ^ i →
  (digs (s.drop i)→qB.l1 (mkS s) v s.length i=some (((dval v (s.drop i):Nat):Int),true,()))∧(¬digs (s.drop i)→qB.l1 (mkS s) v s.length i=some (0,false,())) ∧
  (digs (s.drop i)→lB.l1 (mkS s) v i=some (((dval v (s.drop i):Nat):Int),()))∧(¬digs (s.drop i)→lB.l1 (mkS s) v i=some (-1,())):=by
 intro k
 induction k with
 | zero=>
  intro i v hk hi hv;have e:i=s.length:=by omega
  subst e;rw[qB.l1_eq,lB.l1_eq,wN2];simp(disch:=omega)only[ss,szS];exact⟨fun _=>rfl,fun h=>absurd (fun c hc=>by cases hc) h,fun _=>rfl,fun h=>absurd (fun c hc=>by cases hc) h⟩
 | succ k ih=>
  intro i v hk hi hv;have hlt:i<s.length:=by omega
  have hbt:bt (mkS s) (i:Int)=((s.getD i 0).toNat:Int):=kI (mkS s) i;have hv2:v<10000000000:=tN2 hv (Nat.pow_le_pow_right (by omega) (show i≤10 by omega));have hc:=xJ2 (s.getD i 0);rw[qB.l1_eq,lB.l1_eq,nC 0 hlt];by_cases hd:dig (s.getD i 0)
  ·have hd':=hd;unfold dig at hd';have hw:=u8w hd;have e2:(10:Int)*(v:Int)+((s.getD i 0).toNat-48:Nat)=((10*v+((s.getD i 0).toNat-48):Nat):Int):=by omega
   simp(disch:=omega)only[ss,szS,hbt,qB.l2_eq,lB.l2_eq,hw];rw[e2];obtain⟨h1,h2,h3,h4⟩:=ih (i+1) (10*v+((s.getD i 0).toNat-48)) (by omega) (by omega) (by rw[Nat.pow_succ];omega);have hq:digs (s.getD i 0::s.drop (i+1))↔digs (s.drop (i+1)):=⟨fun h c hc=>h c (lM2 _ hc),fun h c hc=>(jM2.1 hc).elim (fun e=>e ▸ hd) (h c)⟩
   rw[hq];exact⟨h1,h2,h3,h4⟩
  ·have hq:¬digs (s.getD i 0::s.drop (i+1)):=fun h=>hd (h _ mM2)
   unfold dig at hd;by_cases c1:((s.getD i 0).toNat:Int)<48
   ·simp(disch:=omega)only[ss,szS,hbt,qB.l2_eq,lB.l2_eq];exact⟨fun h=>absurd h hq,fun _=>trivial,fun h=>absurd h hq,fun _=>trivial⟩
   ·simp(disch:=omega)only[ss,szS,hbt,qB.l2_eq,lB.l2_eq];exact⟨fun h=>absurd h hq,fun _=>trivial,fun h=>absurd h hq,fun _=>trivial⟩
theorem snum (s:List UInt8) (hs:s.length≤10):(digs s→qB.f (mkS s)=some (((dval 0 s:Nat):Int),true,()))∧(¬digs s→qB.f (mkS s)=some (0,false,())):=by have:=dV1 s hs _ 0 0 rfl (iM2 _) (by decide);rw[tM2,bN2]at this;rw[qB.f_eq,szS];exact⟨this.1,this.2.1⟩
theorem vnum (s:List UInt8) (hs:s.length≤10):(digs s→lB.f (mkS s)=some (((dval 0 s:Nat):Int),()))∧(¬digs s→lB.f (mkS s)=some (-1,())):=by have:=dV1 s hs _ 0 0 rfl (iM2 _) (by decide);rw[tM2,bN2]at this;rw[lB.f_eq];exact⟨this.2.2.1,this.2.2.2⟩
theorem jR1 (s:List UInt8) (hs:s.length≤10):∃n:Int,lB.f (mkS s)=some (n,())∧(digs s→n=(dval 0 s:Nat))∧(¬digs s→n = -1):=by
 by_cases h:digs s
 ·exact⟨_,(vnum s hs).1 h,fun _=>rfl,fun q=>absurd h q⟩
 ·exact⟨_,(vnum s hs).2 h,fun q=>absurd q h,fun _=>rfl⟩
theorem oN {a b:List UInt8}:digs (a++b)↔digs a∧digs b:=
 ⟨fun h=>⟨fun c hc=>h c (zM2 _ hc),fun c hc=>h c (eN2 _ hc)⟩,fun h c hc=>(pM2.1 hc).elim (h.1 c) (h.2 c)⟩
theorem ex_S (s:List UInt8) (a b:Nat):(mkS s).extract a b=mkS ((s.drop a).take (b-a)):=lI (by rw[yZ1,B_mk,B_mk])
theorem len2 (y0 y1 y2 y3 y4 y5:Int) (h:y0<0∨y1<0∨y2<0∨y3<0∨y4<0∨y5<0):pB.l2 0 [y0,y1,y2,y3,y4,y5]=some (0,4,()):=by
 have step:∀(i:Nat) (hi:i<6),pB.l2 i [y0,y1,y2,y3,y4,y5]=bif decide ([y0,y1,y2,y3,y4,y5].getD i 0<0)then some (0,4,())else pB.l2 (i+1:Nat) [y0,y1,y2,y3,y4,y5]:=by
  intro i hi
  conv=>lhs;rw[pB.l2_eq]
  simp(disch:=omega)only[ss,kM2,xM2];rfl
 have z:=step 0 (by omega);rw[tM2]at z;rw[z,step 1 (by omega),step 2 (by omega),step 3 (by omega),step 4 (by omega),step 5 (by omega)];simp only[List.getD_cons_zero,bQ2];by_cases h0:y0<0
 ·simp(disch:=omega)only[ss]
 ·by_cases h1:y1<0
  ·simp(disch:=omega)only[ss]
  ·by_cases h2:y2<0
   ·simp(disch:=omega)only[ss]
   ·by_cases h3:y3<0
    ·simp(disch:=omega)only[ss]
    ·by_cases h4:y4<0
     ·simp(disch:=omega)only[ss]
     ·have h5:y5<0:=by omega
      simp(disch:=omega)only[ss]
theorem vL2 (y0 y1 y2 y3 y4 y5:Int) (h:¬(y0<0∨y1<0∨y2<0∨y3<0∨y4<0∨y5<0)):pB.l2 0 [y0,y1,y2,y3,y4,y5]=(pC.f y0 y1 y2 y3 y4 y5).bind fun t7=>some (t7.1,t7.2.1,()):=by
 have step:∀(i:Nat) (hi:i<6),pB.l2 i [y0,y1,y2,y3,y4,y5]=bif decide ([y0,y1,y2,y3,y4,y5].getD i 0<0)then some (0,4,())else pB.l2 (i+1:Nat) [y0,y1,y2,y3,y4,y5]:=by
  intro i hi
  conv=>lhs;rw[pB.l2_eq]
  simp(disch:=omega)only[ss,kM2,xM2];rfl
 have z:=step 0 (by omega);rw[tM2]at z;rw[z,step 1 (by omega),step 2 (by omega),step 3 (by omega),step 4 (by omega),step 5 (by omega)];simp only[List.getD_cons_zero,bQ2];simp(disch:=omega)only[ss];rw[pB.l2_eq];simp(disch:=omega)only[ss,kM2,xM2];rfl
theorem mH (s:List UInt8) (hs:s.length≤1000000):∃t e,gB.f (mkS s)=some (t,e,())∧pB.f (mkS s)=some (t,e,()):=by
 rw[gB.f_eq,pB.f_eq];by_cases c1:(s.length:Int)<15
 ·exact⟨0,2,by simp(disch:=omega)only[ss,szS],by simp(disch:=omega)only[ss,szS]⟩
 ·by_cases c2:(s.length:Int)>15
  ·exact⟨0,4,by simp(disch:=omega)only[ss,szS,gB.l1_eq],by simp(disch:=omega)only[ss,szS,pB.l1_eq]⟩
  ·have hl:s.length=15:=by omega
   have hbt:bt (mkS s) 8=((s.getD 8 0).toNat:Int):=kI (mkS s) 8;by_cases c3:((s.getD 8 0).toNat:Int)=84
   ·simp(disch:=omega)only[ss,szS,hbt,gB.l1_eq,pB.l1_eq];have t4:(4:Int).toNat=4:=rfl;simp only[show Int.toNat 4=4 from rfl,show Int.toNat 6=6 from rfl,show Int.toNat 8=8 from rfl,show Int.toNat 9=9 from rfl,show Int.toNat 11=11 from rfl,show Int.toNat 13=13 from rfl,show Int.toNat 15=15 from rfl,hl,ex_S,Nat.sub_zero,bN2,Nat.reduceSub];have L:∀a b:Nat,a+b≤15→((s.drop a).take b).length=b:=fun a b h=>by rw[sM2,aN2];omega
    have sp1:s.take 8=s.take 4++((s.drop 4).take 2++(s.drop 6).take 2):=by
     have h1:s.take 8=s.take 4++(s.drop 4).take 4:=by rw[←List.take_add]
     have h2:(s.drop 4).take 4=(s.drop 4).take 2++(s.drop 6).take 2:=by rw[show(4:Nat)=2+2 from rfl,List.take_add,eP2]
     rw[h1,h2]
    have sp2:(s.drop 9).take 6=(s.drop 9).take 2++((s.drop 11).take 2++(s.drop 13).take 2):=by
     have h1:(s.drop 9).take 6=(s.drop 9).take 2++(s.drop 11).take 4:=by rw[show(6:Nat)=2+4 from rfl,List.take_add,eP2]
     have h2:(s.drop 11).take 4=(s.drop 11).take 2++(s.drop 13).take 2:=by rw[show(4:Nat)=2+2 from rfl,List.take_add,eP2]
     rw[h1,h2]
    have L1:(s.take 4).length=4:=by rw[sM2];omega
    have L2:=L 4 2 (by omega);have L3:=L 6 2 (by omega);have L4:=L 9 2 (by omega);have L5:=L 11 2 (by omega);have L6:=L 13 2 (by omega);obtain⟨n1,e1,p1,q1⟩:=jR1 (s.take 4) (by omega);obtain⟨n2,e2,p2,q2⟩:=jR1 ((s.drop 4).take 2) (by omega);obtain⟨n3,e3,p3,q3⟩:=jR1 ((s.drop 6).take 2) (by omega);obtain⟨n4,e4,p4,q4⟩:=jR1 ((s.drop 9).take 2) (by omega);obtain⟨n5,e5,p5,q5⟩:=jR1 ((s.drop 11).take 2) (by omega);obtain⟨n6,e6,p6,q6⟩:=jR1 ((s.drop 13).take 2) (by omega);have hA:=snum (s.take 8) (by rw[sM2];omega);have hB:=snum ((s.drop 9).take 6) (by rw[sM2];omega);rw[sp1]at hA;rw[sp2]at hB;rw[oN,oN]at hA hB;rw[sp1,sp2];simp only[e1,e2,e3,e4,e5,e6,eM2];generalize s.take 4=w1 at *;generalize (s.drop 4).take 2=w2 at *;generalize (s.drop 6).take 2=w3 at *;generalize (s.drop 9).take 2=w4 at *;generalize (s.drop 11).take 2=w5 at *;generalize (s.drop 13).take 2=w6 at *;by_cases g1:digs w1∧digs w2∧digs w3
    ·by_cases g2:digs w4∧digs w5∧digs w6
     ·rw[hA.1 g1,hB.1 g2];have b1:=wQ w1 g1.1;have b2:=wQ w2 g1.2.1;have b3:=wQ w3 g1.2.2;have b4:=wQ w4 g2.1;have b5:=wQ w5 g2.2.1;have b6:=wQ w6 g2.2.2;rw[L1]at b1;rw[L2]at b2;rw[L3]at b3;rw[L4]at b4;rw[L5]at b5;rw[L6]at b6;have v1:dval 0 (w1++(w2++w3))=dval 0 w1*10000+dval 0 w2*100+dval 0 w3:=by rw[cI,cI,nJ w3,nJ w2,L2,L3];omega
      have v2:dval 0 (w4++(w5++w6))=dval 0 w4*10000+dval 0 w5*100+dval 0 w6:=by rw[cI,cI,nJ w6,nJ w5,L5,L6];omega
      rw[v1,v2];have p1:=p1 g1.1;have p2:=p2 g1.2.1;have p3:=p3 g1.2.2;have p4:=p4 g2.1;have p5:=p5 g2.2.1;have p6:=p6 g2.2.2;subst p1 p2 p3 p4 p5 p6;rw[vL2 _ _ _ _ _ _ (by omega)];generalize dval 0 w1=a1 at *;generalize dval 0 w2=a2 at *;generalize dval 0 w3=a3 at *;generalize dval 0 w4=a4 at *;generalize dval 0 w5=a5 at *;generalize dval 0 w6=a6 at *;obtain⟨t,e,m1,m2⟩:=eG1 a1 a2 a3 a4 a5 a6 (by omega) (by omega) (by omega);refine⟨t,e,?_,by rw[m2];rfl⟩;have k1:Int.tdiv ((a1*10000+a2*100+a3:Nat):Int) 10000=a1:=by rw[tdn (by omega)];omega
      have k2:Int.tdiv ((a1*10000+a2*100+a3:Nat):Int) 100=((a1*100+a2:Nat):Int):=by rw[tdn (by omega)];omega
      have k3:Int.tmod ((a1*100+a2:Nat):Int) 100=a2:=by rw[tmn (by omega)];omega
      have k4:Int.tmod ((a1*10000+a2*100+a3:Nat):Int) 100=a3:=by rw[tmn (by omega)];omega
      have j1:Int.tdiv ((a4*10000+a5*100+a6:Nat):Int) 10000=a4:=by rw[tdn (by omega)];omega
      have j2:Int.tdiv ((a4*10000+a5*100+a6:Nat):Int) 100=((a4*100+a5:Nat):Int):=by rw[tdn (by omega)];omega
      have j3:Int.tmod ((a4*100+a5:Nat):Int) 100=a5:=by rw[tmn (by omega)];omega
      have j4:Int.tmod ((a4*10000+a5*100+a6:Nat):Int) 100=a6:=by rw[tmn (by omega)];omega
      simp(disch:=omega)only[ss,gB.l2_eq,k1,k2,k4,j1,j2,j4];rw[k3,j3,m1];rfl
     ·refine⟨0,4,?_,?_⟩
      ·rw[hA.1 g1,hB.2 g2];simp(disch:=omega)only[ss,gB.l2_eq]
      ·refine len2 _ _ _ _ _ _ ?_;by_cases z4:digs w4
       ·by_cases z5:digs w5
        ·have:=q6 fun z6=>g2 ⟨z4,z5,z6⟩
         omega
        ·have:=q5 z5;omega
       ·have:=q4 z4;omega
    ·refine⟨0,4,?_,?_⟩
     ·rw[hA.2 g1];by_cases g2:digs w4∧digs w5∧digs w6
      ·rw[hB.1 g2];simp(disch:=omega)only[ss,gB.l2_eq]
      ·rw[hB.2 g2];simp(disch:=omega)only[ss,gB.l2_eq]
     ·refine len2 _ _ _ _ _ _ ?_;by_cases z1:digs w1
      ·by_cases z2:digs w2
       ·have:=q3 fun z3=>g1 ⟨z1,z2,z3⟩
        omega
       ·have:=q2 z2;omega
      ·have:=q1 z1;omega
   ·exact⟨0,4,by simp(disch:=omega)only[ss,szS,hbt,gB.l1_eq],by simp(disch:=omega)only[ss,szS,hbt,pB.l1_eq]⟩
theorem dm (a b:List UInt8):decide (mkS a=mkS b)=decide (a=b):=decide_eq_decide.2 ⟨eK,fun h=>by rw[h]⟩
def FREQ :List UInt8:=[70,82,69,81]
def sh60 (r:Rl):Prop:=r.2.2.2.2.2.2.1.length≤60∧r.2.2.2.2.2.2.2.1.length≤60∧r.2.2.2.2.2.2.2.2.1.length≤60∧r.2.2.2.2.2.2.2.2.2.1.length≤60∧r.2.2.2.2.2.2.2.2.2.2.1.length≤60∧r.2.2.2.2.2.2.2.2.2.2.2.1.length≤60∧r.2.2.2.2.2.2.2.2.2.2.2.2.1.length≤60∧r.2.2.2.2.2.2.2.2.2.2.2.2.2.1.length≤60∧r.2.2.2.2.2.2.2.2.2.2.2.2.2.2.1.length≤60
def Part (r:Rl) (name:List UInt8) (a b:Option (Bool×Rl×Unit)):Prop:=
 (∃r':Rl,a=some (true,r',())∧b=some (true,r',())∧(sh60 r→sh60 r')∧(name=FREQ→r'.1≠0)∧(name≠FREQ→r'.1=r.1))∨(∃r1 r2:Rl,a=some (false,r1,())∧b=some (false,r2,()))
def fw :List (List UInt8):=[[89,69,65,82,76,89],[77,79,78,84,72,76,89],[87,69,69,75,76,89],[68,65,73,76,89],[72,79,85,82,76,89],[77,73,78,85,84,69,76,89],[83,69,67,79,78,68,76,89]]
theorem cE1 :qK.f=some (fw.map mkS,()):=by rw[qK.f_eq];rfl
theorem rN1 :pH.f=some ((([]:List UInt8)::fw).map mkS,()):=by rw[pH.f_eq];rfl
theorem nm0 :(⟨#[70,82,69,81]⟩:ByteArray)=mkS [70,82,69,81]:=rfl
theorem nm1 :(⟨#[73,78,84,69,82,86,65,76]⟩:ByteArray)=mkS [73,78,84,69,82,86,65,76]:=rfl
theorem nm2 :(⟨#[67,79,85,78,84]⟩:ByteArray)=mkS [67,79,85,78,84]:=rfl
theorem nm3 :(⟨#[85,78,84,73,76]⟩:ByteArray)=mkS [85,78,84,73,76]:=rfl
theorem nm4 :(⟨#[66,89,68,65,89]⟩:ByteArray)=mkS [66,89,68,65,89]:=rfl
theorem nm5 :(⟨#[87,75,83,84]⟩:ByteArray)=mkS [87,75,83,84]:=rfl
theorem nm6 :(⟨#[66,89,77,79,78,84,72]⟩:ByteArray)=mkS [66,89,77,79,78,84,72]:=rfl
theorem nm7 :(⟨#[66,89,87,69,69,75,78,79]⟩:ByteArray)=mkS [66,89,87,69,69,75,78,79]:=rfl
theorem nm8 :(⟨#[66,89,89,69,65,82,68,65,89]⟩:ByteArray)=mkS [66,89,89,69,65,82,68,65,89]:=rfl
theorem nm9 :(⟨#[66,89,77,79,78,84,72,68,65,89]⟩:ByteArray)=mkS [66,89,77,79,78,84,72,68,65,89]:=rfl
theorem nm10 :(⟨#[66,89,72,79,85,82]⟩:ByteArray)=mkS [66,89,72,79,85,82]:=rfl
theorem nm11 :(⟨#[66,89,77,73,78,85,84,69]⟩:ByteArray)=mkS [66,89,77,73,78,85,84,69]:=rfl
theorem nm12 :(⟨#[66,89,83,69,67,79,78,68]⟩:ByteArray)=mkS [66,89,83,69,67,79,78,68]:=rfl
theorem nm13 :(⟨#[66,89,83,69,84,80,79,83]⟩:ByteArray)=mkS [66,89,83,69,84,80,79,83]:=rfl
section
variable (f iv ct un wk : Int) (en : Bool) (mo we yd md : List Int) (dy : List Dy) (ho mi se po : List Int)
theorem xE1 (v:List UInt8) (hv:v.length≤50000):Part (f,iv,ct,un,wk,en,mo,we,yd,md,dy,ho,mi,se,po,()) [73,78,84,69,82,86,65,76] (iA.f (f,iv,ct,un,wk,en,mo,we,yd,md,dy,ho,mi,se,po,()) (mkS [73,78,84,69,82,86,65,76]) (mkS v)) (xB.f (f,iv,ct,un,wk,en,mo,we,yd,md,dy,ho,mi,se,po,()) (mkS [73,78,84,69,82,86,65,76]) (mkS v)):=by
 rw[iA.f_eq,xB.f_eq];simp(disch:=decide)only[mE,nm0,nm1,nm2,nm3,nm4,nm5,nm6,nm7,nm8,nm9,nm10,nm11,nm12,nm13,dm,dp,dn,cond_true,cond_false];rcases nL v (by omega)with⟨n,hn,e⟩ | ⟨hn,n,e⟩ <;> rcases vJ v (by omega)with⟨m,hm,g⟩ | ⟨hm,m,g⟩
 ·have:=oK hn hm;subst this;simp only[e,g,eM2];refine .inl ⟨(f,n,ct,un,wk,en,mo,we,yd,md,dy,ho,mi,se,po,()),rfl,rfl,?_,fun h=>absurd h (by decide),fun _=>rfl⟩;exact fun h=>h
 ·exact absurd hn (hm n)
 ·exact absurd hm (hn m)
 ·simp only[e,g,eM2];exact .inr ⟨_,_,rfl,rfl⟩
theorem eP1 (v:List UInt8) (hv:v.length≤50000):Part (f,iv,ct,un,wk,en,mo,we,yd,md,dy,ho,mi,se,po,()) [67,79,85,78,84] (iA.f (f,iv,ct,un,wk,en,mo,we,yd,md,dy,ho,mi,se,po,()) (mkS [67,79,85,78,84]) (mkS v)) (xB.f (f,iv,ct,un,wk,en,mo,we,yd,md,dy,ho,mi,se,po,()) (mkS [67,79,85,78,84]) (mkS v)):=by
 rw[iA.f_eq,xB.f_eq];simp(disch:=decide)only[mE,nm0,nm1,nm2,nm3,nm4,nm5,nm6,nm7,nm8,nm9,nm10,nm11,nm12,nm13,dm,dp,dn,cond_true,cond_false];rcases nL v (by omega)with⟨n,hn,e⟩ | ⟨hn,n,e⟩ <;> rcases vJ v (by omega)with⟨m,hm,g⟩ | ⟨hm,m,g⟩
 ·have:=oK hn hm;subst this;simp only[e,g,eM2];refine .inl ⟨(f,iv,n,un,wk,en,mo,we,yd,md,dy,ho,mi,se,po,()),rfl,rfl,?_,fun h=>absurd h (by decide),fun _=>rfl⟩;exact fun h=>h
 ·exact absurd hn (hm n)
 ·exact absurd hm (hn m)
 ·simp only[e,g,eM2];exact .inr ⟨_,_,rfl,rfl⟩
theorem cP1 (v:List UInt8) (hv:v.length≤50000):Part (f,iv,ct,un,wk,en,mo,we,yd,md,dy,ho,mi,se,po,()) [85,78,84,73,76] (iA.f (f,iv,ct,un,wk,en,mo,we,yd,md,dy,ho,mi,se,po,()) (mkS [85,78,84,73,76]) (mkS v)) (xB.f (f,iv,ct,un,wk,en,mo,we,yd,md,dy,ho,mi,se,po,()) (mkS [85,78,84,73,76]) (mkS v)):=by
 rw[iA.f_eq,xB.f_eq];simp(disch:=decide)only[mE,nm0,nm1,nm2,nm3,nm4,nm5,nm6,nm7,nm8,nm9,nm10,nm11,nm12,nm13,dm,dp,dn,cond_true,cond_false];obtain⟨t,e,h1,h2⟩:=mH v (by omega);simp only[h1,h2,eM2];by_cases he:e=0
 ·rw[dp he];refine .inl ⟨(f,iv,ct,t,wk,true,mo,we,yd,md,dy,ho,mi,se,po,()),rfl,rfl,fun h=>h,fun h=>absurd h (by decide),fun _=>rfl⟩
 ·rw[dn he];exact .inr ⟨_,_,rfl,rfl⟩
theorem hP1 (v:List UInt8) (hv:v.length≤50000):Part (f,iv,ct,un,wk,en,mo,we,yd,md,dy,ho,mi,se,po,()) [66,89,68,65,89] (iA.f (f,iv,ct,un,wk,en,mo,we,yd,md,dy,ho,mi,se,po,()) (mkS [66,89,68,65,89]) (mkS v)) (xB.f (f,iv,ct,un,wk,en,mo,we,yd,md,dy,ho,mi,se,po,()) (mkS [66,89,68,65,89]) (mkS v)):=by
 rw[iA.f_eq,xB.f_eq];simp(disch:=decide)only[mE,nm0,nm1,nm2,nm3,nm4,nm5,nm6,nm7,nm8,nm9,nm10,nm11,nm12,nm13,dm,dp,dn,cond_true,cond_false];rcases nU v hv with⟨r,hr,e,g⟩ | ⟨_,e,g⟩
 ·have hr:r.length≤60:=hr.1.2;simp only[e,g,eM2];refine .inl ⟨(f,iv,ct,un,wk,en,mo,we,yd,md,r,ho,mi,se,po,()),rfl,rfl,?_,fun h=>absurd h (by decide),fun _=>rfl⟩
  exact fun h=>by unfold sh60 at *;dsimp only at *;exact⟨h.1,h.2.1,h.2.2.1,h.2.2.2.1,hr,h.2.2.2.2.2.1,h.2.2.2.2.2.2.1,h.2.2.2.2.2.2.2.1,h.2.2.2.2.2.2.2.2⟩
 ·simp only[e,g,eM2];exact .inr ⟨_,_,rfl,rfl⟩
theorem yH1 (v:List UInt8) (hv:v.length≤50000):Part (f,iv,ct,un,wk,en,mo,we,yd,md,dy,ho,mi,se,po,()) [66,89,77,79,78,84,72] (iA.f (f,iv,ct,un,wk,en,mo,we,yd,md,dy,ho,mi,se,po,()) (mkS [66,89,77,79,78,84,72]) (mkS v)) (xB.f (f,iv,ct,un,wk,en,mo,we,yd,md,dy,ho,mi,se,po,()) (mkS [66,89,77,79,78,84,72]) (mkS v)):=by
 rw[iA.f_eq,xB.f_eq];simp(disch:=decide)only[mE,nm0,nm1,nm2,nm3,nm4,nm5,nm6,nm7,nm8,nm9,nm10,nm11,nm12,nm13,dm,dp,dn,cond_true,cond_false];rw[iA.l1_eq];rcases zI v hv with⟨r,hr,e,g⟩ | ⟨_,e,g⟩
 ·have hr:r.length≤60:=hr.1.2;simp only[e,g,eM2];refine .inl ⟨(f,iv,ct,un,wk,en,r,we,yd,md,dy,ho,mi,se,po,()),rfl,rfl,?_,fun h=>absurd h (by decide),fun _=>rfl⟩
  exact fun h=>by unfold sh60 at *;dsimp only at *;exact⟨hr,h.2.1,h.2.2.1,h.2.2.2.1,h.2.2.2.2.1,h.2.2.2.2.2.1,h.2.2.2.2.2.2.1,h.2.2.2.2.2.2.2.1,h.2.2.2.2.2.2.2.2⟩
 ·simp only[e,g,eM2];exact .inr ⟨_,_,rfl,rfl⟩
theorem nF1 (v:List UInt8) (hv:v.length≤50000):Part (f,iv,ct,un,wk,en,mo,we,yd,md,dy,ho,mi,se,po,()) [66,89,87,69,69,75,78,79] (iA.f (f,iv,ct,un,wk,en,mo,we,yd,md,dy,ho,mi,se,po,()) (mkS [66,89,87,69,69,75,78,79]) (mkS v)) (xB.f (f,iv,ct,un,wk,en,mo,we,yd,md,dy,ho,mi,se,po,()) (mkS [66,89,87,69,69,75,78,79]) (mkS v)):=by
 rw[iA.f_eq,xB.f_eq];simp(disch:=decide)only[mE,nm0,nm1,nm2,nm3,nm4,nm5,nm6,nm7,nm8,nm9,nm10,nm11,nm12,nm13,dm,dp,dn,cond_true,cond_false];rw[iA.l1a_eq];rcases zI v hv with⟨r,hr,e,g⟩ | ⟨_,e,g⟩
 ·have hr:r.length≤60:=hr.1.2;simp only[e,g,eM2];refine .inl ⟨(f,iv,ct,un,wk,en,mo,r,yd,md,dy,ho,mi,se,po,()),rfl,rfl,?_,fun h=>absurd h (by decide),fun _=>rfl⟩
  exact fun h=>by unfold sh60 at *;dsimp only at *;exact⟨h.1,hr,h.2.2.1,h.2.2.2.1,h.2.2.2.2.1,h.2.2.2.2.2.1,h.2.2.2.2.2.2.1,h.2.2.2.2.2.2.2.1,h.2.2.2.2.2.2.2.2⟩
 ·simp only[e,g,eM2];exact .inr ⟨_,_,rfl,rfl⟩
theorem iA1 (v:List UInt8) (hv:v.length≤50000):Part (f,iv,ct,un,wk,en,mo,we,yd,md,dy,ho,mi,se,po,()) [66,89,89,69,65,82,68,65,89] (iA.f (f,iv,ct,un,wk,en,mo,we,yd,md,dy,ho,mi,se,po,()) (mkS [66,89,89,69,65,82,68,65,89]) (mkS v)) (xB.f (f,iv,ct,un,wk,en,mo,we,yd,md,dy,ho,mi,se,po,()) (mkS [66,89,89,69,65,82,68,65,89]) (mkS v)):=by
 rw[iA.f_eq,xB.f_eq];simp(disch:=decide)only[mE,nm0,nm1,nm2,nm3,nm4,nm5,nm6,nm7,nm8,nm9,nm10,nm11,nm12,nm13,dm,dp,dn,cond_true,cond_false];rw[iA.l1b_eq];rcases zI v hv with⟨r,hr,e,g⟩ | ⟨_,e,g⟩
 ·have hr:r.length≤60:=hr.1.2;simp only[e,g,eM2];refine .inl ⟨(f,iv,ct,un,wk,en,mo,we,r,md,dy,ho,mi,se,po,()),rfl,rfl,?_,fun h=>absurd h (by decide),fun _=>rfl⟩
  exact fun h=>by unfold sh60 at *;dsimp only at *;exact⟨h.1,h.2.1,hr,h.2.2.2.1,h.2.2.2.2.1,h.2.2.2.2.2.1,h.2.2.2.2.2.2.1,h.2.2.2.2.2.2.2.1,h.2.2.2.2.2.2.2.2⟩
 ·simp only[e,g,eM2];exact .inr ⟨_,_,rfl,rfl⟩
theorem xY (v:List UInt8) (hv:v.length≤50000):Part (f,iv,ct,un,wk,en,mo,we,yd,md,dy,ho,mi,se,po,()) [66,89,77,79,78,84,72,68,65,89] (iA.f (f,iv,ct,un,wk,en,mo,we,yd,md,dy,ho,mi,se,po,()) (mkS [66,89,77,79,78,84,72,68,65,89]) (mkS v)) (xB.f (f,iv,ct,un,wk,en,mo,we,yd,md,dy,ho,mi,se,po,()) (mkS [66,89,77,79,78,84,72,68,65,89]) (mkS v)):=by
 rw[iA.f_eq,xB.f_eq];simp(disch:=decide)only[mE,nm0,nm1,nm2,nm3,nm4,nm5,nm6,nm7,nm8,nm9,nm10,nm11,nm12,nm13,dm,dp,dn,cond_true,cond_false];rw[iA.l1c_eq];rcases zI v hv with⟨r,hr,e,g⟩ | ⟨_,e,g⟩
 ·have hr:r.length≤60:=hr.1.2;simp only[e,g,eM2];refine .inl ⟨(f,iv,ct,un,wk,en,mo,we,yd,r,dy,ho,mi,se,po,()),rfl,rfl,?_,fun h=>absurd h (by decide),fun _=>rfl⟩
  exact fun h=>by unfold sh60 at *;dsimp only at *;exact⟨h.1,h.2.1,h.2.2.1,hr,h.2.2.2.2.1,h.2.2.2.2.2.1,h.2.2.2.2.2.2.1,h.2.2.2.2.2.2.2.1,h.2.2.2.2.2.2.2.2⟩
 ·simp only[e,g,eM2];exact .inr ⟨_,_,rfl,rfl⟩
theorem mK1 (v:List UInt8) (hv:v.length≤50000):Part (f,iv,ct,un,wk,en,mo,we,yd,md,dy,ho,mi,se,po,()) [66,89,72,79,85,82] (iA.f (f,iv,ct,un,wk,en,mo,we,yd,md,dy,ho,mi,se,po,()) (mkS [66,89,72,79,85,82]) (mkS v)) (xB.f (f,iv,ct,un,wk,en,mo,we,yd,md,dy,ho,mi,se,po,()) (mkS [66,89,72,79,85,82]) (mkS v)):=by
 rw[iA.f_eq,xB.f_eq];simp(disch:=decide)only[mE,nm0,nm1,nm2,nm3,nm4,nm5,nm6,nm7,nm8,nm9,nm10,nm11,nm12,nm13,dm,dp,dn,cond_true,cond_false];rw[iA.l1d_eq];rcases zI v hv with⟨r,hr,e,g⟩ | ⟨_,e,g⟩
 ·have hr:r.length≤60:=hr.1.2;simp only[e,g,eM2];refine .inl ⟨(f,iv,ct,un,wk,en,mo,we,yd,md,dy,r,mi,se,po,()),rfl,rfl,?_,fun h=>absurd h (by decide),fun _=>rfl⟩
  exact fun h=>by unfold sh60 at *;dsimp only at *;exact⟨h.1,h.2.1,h.2.2.1,h.2.2.2.1,h.2.2.2.2.1,hr,h.2.2.2.2.2.2.1,h.2.2.2.2.2.2.2.1,h.2.2.2.2.2.2.2.2⟩
 ·simp only[e,g,eM2];exact .inr ⟨_,_,rfl,rfl⟩
theorem oE1 (v:List UInt8) (hv:v.length≤50000):Part (f,iv,ct,un,wk,en,mo,we,yd,md,dy,ho,mi,se,po,()) [66,89,77,73,78,85,84,69] (iA.f (f,iv,ct,un,wk,en,mo,we,yd,md,dy,ho,mi,se,po,()) (mkS [66,89,77,73,78,85,84,69]) (mkS v)) (xB.f (f,iv,ct,un,wk,en,mo,we,yd,md,dy,ho,mi,se,po,()) (mkS [66,89,77,73,78,85,84,69]) (mkS v)):=by
 rw[iA.f_eq,xB.f_eq];simp(disch:=decide)only[mE,nm0,nm1,nm2,nm3,nm4,nm5,nm6,nm7,nm8,nm9,nm10,nm11,nm12,nm13,dm,dp,dn,cond_true,cond_false];rw[iA.l1e_eq];rcases zI v hv with⟨r,hr,e,g⟩ | ⟨_,e,g⟩
 ·have hr:r.length≤60:=hr.1.2;simp only[e,g,eM2];refine .inl ⟨(f,iv,ct,un,wk,en,mo,we,yd,md,dy,ho,r,se,po,()),rfl,rfl,?_,fun h=>absurd h (by decide),fun _=>rfl⟩
  exact fun h=>by unfold sh60 at *;dsimp only at *;exact⟨h.1,h.2.1,h.2.2.1,h.2.2.2.1,h.2.2.2.2.1,h.2.2.2.2.2.1,hr,h.2.2.2.2.2.2.2.1,h.2.2.2.2.2.2.2.2⟩
 ·simp only[e,g,eM2];exact .inr ⟨_,_,rfl,rfl⟩
theorem cD1 (v:List UInt8) (hv:v.length≤50000):Part (f,iv,ct,un,wk,en,mo,we,yd,md,dy,ho,mi,se,po,()) [66,89,83,69,67,79,78,68] (iA.f (f,iv,ct,un,wk,en,mo,we,yd,md,dy,ho,mi,se,po,()) (mkS [66,89,83,69,67,79,78,68]) (mkS v)) (xB.f (f,iv,ct,un,wk,en,mo,we,yd,md,dy,ho,mi,se,po,()) (mkS [66,89,83,69,67,79,78,68]) (mkS v)):=by
 rw[iA.f_eq,xB.f_eq];simp(disch:=decide)only[mE,nm0,nm1,nm2,nm3,nm4,nm5,nm6,nm7,nm8,nm9,nm10,nm11,nm12,nm13,dm,dp,dn,cond_true,cond_false];rw[iA.l1f_eq];rcases zI v hv with⟨r,hr,e,g⟩ | ⟨_,e,g⟩
 ·have hr:r.length≤60:=hr.1.2;simp only[e,g,eM2];refine .inl ⟨(f,iv,ct,un,wk,en,mo,we,yd,md,dy,ho,mi,r,po,()),rfl,rfl,?_,fun h=>absurd h (by decide),fun _=>rfl⟩
  exact fun h=>by unfold sh60 at *;dsimp only at *;exact⟨h.1,h.2.1,h.2.2.1,h.2.2.2.1,h.2.2.2.2.1,h.2.2.2.2.2.1,h.2.2.2.2.2.2.1,hr,h.2.2.2.2.2.2.2.2⟩
 ·simp only[e,g,eM2];exact .inr ⟨_,_,rfl,rfl⟩
theorem pF1 (v:List UInt8) (hv:v.length≤50000):Part (f,iv,ct,un,wk,en,mo,we,yd,md,dy,ho,mi,se,po,()) [66,89,83,69,84,80,79,83] (iA.f (f,iv,ct,un,wk,en,mo,we,yd,md,dy,ho,mi,se,po,()) (mkS [66,89,83,69,84,80,79,83]) (mkS v)) (xB.f (f,iv,ct,un,wk,en,mo,we,yd,md,dy,ho,mi,se,po,()) (mkS [66,89,83,69,84,80,79,83]) (mkS v)):=by
 rw[iA.f_eq,xB.f_eq];simp(disch:=decide)only[mE,nm0,nm1,nm2,nm3,nm4,nm5,nm6,nm7,nm8,nm9,nm10,nm11,nm12,nm13,dm,dp,dn,cond_true,cond_false];rw[iA.l1g_eq];rcases zI v hv with⟨r,hr,e,g⟩ | ⟨_,e,g⟩
 ·have hr:r.length≤60:=hr.1.2;simp only[e,g,eM2];refine .inl ⟨(f,iv,ct,un,wk,en,mo,we,yd,md,dy,ho,mi,se,r,()),rfl,rfl,?_,fun h=>absurd h (by decide),fun _=>rfl⟩
  exact fun h=>by unfold sh60 at *;dsimp only at *;exact⟨h.1,h.2.1,h.2.2.1,h.2.2.2.1,h.2.2.2.2.1,h.2.2.2.2.2.1,h.2.2.2.2.2.2.1,h.2.2.2.2.2.2.2.1,hr⟩
 ·simp only[e,g,eM2];exact .inr ⟨_,_,rfl,rfl⟩
theorem xT1 (v:List UInt8) (hv:v.length≤50000):Part (f,iv,ct,un,wk,en,mo,we,yd,md,dy,ho,mi,se,po,()) [87,75,83,84] (iA.f (f,iv,ct,un,wk,en,mo,we,yd,md,dy,ho,mi,se,po,()) (mkS [87,75,83,84]) (mkS v)) (xB.f (f,iv,ct,un,wk,en,mo,we,yd,md,dy,ho,mi,se,po,()) (mkS [87,75,83,84]) (mkS v)):=by
 rw[iA.f_eq,xB.f_eq];simp(disch:=decide)only[mE,nm0,nm1,nm2,nm3,nm4,nm5,nm6,nm7,nm8,nm9,nm10,nm11,nm12,nm13,dm,dp,dn,cond_true,cond_false];have hI:=xK wd v (by decide);have hW:=mR wd v (by decide);have hp:=bQ wd v 0 (by omega);have hnil:([]:List UInt8)∉wd:=by decide
 simp only[mJ,iS,hI,hW,eM2];by_cases c:v∈wd
 ·have hv0:v≠[]:=fun q=>hnil (q ▸ c)
  have hge:=hp.1.2 c;rw[if_neg hv0,dp (show posF 0 wd v≥0 from hge)];exact .inl ⟨_,rfl,rfl,fun h=>h,fun h=>absurd h (by decide),fun _=>rfl⟩
 ·have hlt:¬posF 0 wd v≥0:=fun q=>c (hp.1.1 q)
  have:¬(if v=[]then(-1:Int)else posF 0 wd v)≥0:=by split <;> omega
  rw[dn hlt,dn this];exact .inr ⟨_,_,rfl,rfl⟩
theorem wV1 (v:List UInt8) (hv:v.length≤50000):Part (f,iv,ct,un,wk,en,mo,we,yd,md,dy,ho,mi,se,po,()) [70,82,69,81] (iA.f (f,iv,ct,un,wk,en,mo,we,yd,md,dy,ho,mi,se,po,()) (mkS [70,82,69,81]) (mkS v)) (xB.f (f,iv,ct,un,wk,en,mo,we,yd,md,dy,ho,mi,se,po,()) (mkS [70,82,69,81]) (mkS v)):=by
 rw[iA.f_eq,xB.f_eq];simp(disch:=decide)only[mE,nm0,nm1,nm2,nm3,nm4,nm5,nm6,nm7,nm8,nm9,nm10,nm11,nm12,nm13,dm,dp,dn,cond_true,cond_false];have hI:=xK fw v (by decide);have hW:=mR ([]::fw) v (by decide);have hp:=bQ fw v 0 (by omega);have hlt7:=mF1 fw v 0 (by omega);have hl7:(fw.length:Int)=7:=rfl;have hnil:([]:List UInt8)∉fw:=by decide
 have hs:=kG1 fw v 0;have hw:w6 (posF 0 fw v+1)=posF 0 fw v+1:=wr (by omega) (by omega);simp only[cE1,rN1,hI,hW,eM2,hw];by_cases c:v∈fw
 ·have hv0:v≠[]:=fun q=>hnil (q ▸ c)
  have hge:=hp.1.2 c;have e:posF 0 ([]::fw) v=posF 0 fw v+1:=by show(if []=v then(0:Int)else posF (0+1) fw v)=_;rw[if_neg fun q=>hv0 q.symm,hs,if_pos c]
  rw[if_neg hv0,e,dp (show posF 0 fw v+1>0 by omega)];refine .inl ⟨(posF 0 fw v+1,iv,ct,un,wk,en,mo,we,yd,md,dy,ho,mi,se,po,()),rfl,rfl,fun h=>h,fun _=>?_,fun h=>absurd rfl h⟩;show posF 0 fw v+1≠0;omega
 ·have hlt:posF 0 fw v = -1:=hp.2.2.2 (Int.not_le.1 fun q=>c (hp.1.1 q))
  have:(if v=[]then(-1:Int)else posF 0 ([]::fw) v) = -1:=by
   by_cases hv0:v=[]
   ·rw[if_pos hv0]
   ·rw[if_neg hv0];show(if []=v then(0:Int)else posF (0+1) fw v)=_;rw[if_neg fun q=>hv0 q.symm,hs,if_neg c]
  rw[this,hlt];exact .inr ⟨_,_,rfl,rfl⟩
theorem wH1 (name v:List UInt8) (hv:v.length≤50000):Part (f,iv,ct,un,wk,en,mo,we,yd,md,dy,ho,mi,se,po,()) name (iA.f (f,iv,ct,un,wk,en,mo,we,yd,md,dy,ho,mi,se,po,()) (mkS name) (mkS v)) (xB.f (f,iv,ct,un,wk,en,mo,we,yd,md,dy,ho,mi,se,po,()) (mkS name) (mkS v)):=by
 by_cases h0:name=[70,82,69,81]
 ·subst h0;exact wV1 f iv ct un wk en mo we yd md dy ho mi se po v hv
 by_cases h1:name=[73,78,84,69,82,86,65,76]
 ·subst h1;exact xE1 f iv ct un wk en mo we yd md dy ho mi se po v hv
 by_cases h2:name=[67,79,85,78,84]
 ·subst h2;exact eP1 f iv ct un wk en mo we yd md dy ho mi se po v hv
 by_cases h3:name=[85,78,84,73,76]
 ·subst h3;exact cP1 f iv ct un wk en mo we yd md dy ho mi se po v hv
 by_cases h4:name=[66,89,68,65,89]
 ·subst h4;exact hP1 f iv ct un wk en mo we yd md dy ho mi se po v hv
 by_cases h5:name=[87,75,83,84]
 ·subst h5;exact xT1 f iv ct un wk en mo we yd md dy ho mi se po v hv
 by_cases h6:name=[66,89,77,79,78,84,72]
 ·subst h6;exact yH1 f iv ct un wk en mo we yd md dy ho mi se po v hv
 by_cases h7:name=[66,89,87,69,69,75,78,79]
 ·subst h7;exact nF1 f iv ct un wk en mo we yd md dy ho mi se po v hv
 by_cases h8:name=[66,89,89,69,65,82,68,65,89]
 ·subst h8;exact iA1 f iv ct un wk en mo we yd md dy ho mi se po v hv
 by_cases h9:name=[66,89,77,79,78,84,72,68,65,89]
 ·subst h9;exact xY f iv ct un wk en mo we yd md dy ho mi se po v hv
 by_cases h10:name=[66,89,72,79,85,82]
 ·subst h10;exact mK1 f iv ct un wk en mo we yd md dy ho mi se po v hv
 by_cases h11:name=[66,89,77,73,78,85,84,69]
 ·subst h11;exact oE1 f iv ct un wk en mo we yd md dy ho mi se po v hv
 by_cases h12:name=[66,89,83,69,67,79,78,68]
 ·subst h12;exact cD1 f iv ct un wk en mo we yd md dy ho mi se po v hv
 by_cases h13:name=[66,89,83,69,84,80,79,83]
 ·subst h13;exact pF1 f iv ct un wk en mo we yd md dy ho mi se po v hv
 rw[iA.f_eq,xB.f_eq];simp only[mE,nm0,nm1,nm2,nm3,nm4,nm5,nm6,nm7,nm8,nm9,nm10,nm11,nm12,nm13,dm,dn h0,dn h1,dn h2,dn h3,dn h4,dn h5,dn h6,dn h7,dn h8,dn h9,dn h10,dn h11,dn h12,dn h13,cond_false];rw[iA.l1h_eq];exact .inr ⟨_,_,rfl,rfl⟩
end
def zR :Rl:=(0,0,0,0,0,false,[],[],[],[],[],[],[],[],[],())
noncomputable def PA (p:List (List UInt8)) (i:Nat) (r:Rl) (ms:List (List UInt8)):Option (Rl×Int×Int×Unit):=zA.l1a (p.map mkS) p.length i 0 0 0 0 0 false r.1 r.2.1 r.2.2.1 r.2.2.2.1 r.2.2.2.2.1 r.2.2.2.2.2.1 r.2.2.2.2.2.2.1 r.2.2.2.2.2.2.2.1 r.2.2.2.2.2.2.2.2.1 r.2.2.2.2.2.2.2.2.2.1 r.2.2.2.2.2.2.2.2.2.2.1 r.2.2.2.2.2.2.2.2.2.2.2.1 r.2.2.2.2.2.2.2.2.2.2.2.2.1 r.2.2.2.2.2.2.2.2.2.2.2.2.2.1 r.2.2.2.2.2.2.2.2.2.2.2.2.2.2.1 (ms.map mkS)
noncomputable def VA (p:List (List UInt8)) (i:Nat) (r:Rl) (ms:List (List UInt8)):Option (Rl×Int×Int×Unit):=bB.l1a (p.map mkS) i 0 0 0 0 0 false r.1 r.2.1 r.2.2.1 r.2.2.2.1 r.2.2.2.2.1 r.2.2.2.2.2.1 r.2.2.2.2.2.2.1 r.2.2.2.2.2.2.2.1 r.2.2.2.2.2.2.2.2.1 r.2.2.2.2.2.2.2.2.2.1 r.2.2.2.2.2.2.2.2.2.2.1 r.2.2.2.2.2.2.2.2.2.2.2.1 r.2.2.2.2.2.2.2.2.2.2.2.2.1 r.2.2.2.2.2.2.2.2.2.2.2.2.2.1 r.2.2.2.2.2.2.2.2.2.2.2.2.2.2.1 (ms.map mkS)
def Both (a b:Option (Rl×Int×Int×Unit)):Prop:=∃(R:Rl) (at_ e:Int),a=some (R,at_,e,())∧b=some (R,at_,e,())∧sh60 R
theorem nJ2 :sh60 zR:=by unfold sh60 zR;simp
theorem iC1 (n e:Int):Both (some (zR,n,e,())) (some (zR,n,e,())):=⟨zR,n,e,rfl,rfl,nJ2⟩
theorem vF1 {r:Rl} (h:sh60 r):kT r.2.2.2.2.2.2.1 r.2.2.2.2.2.2.2.1 r.2.2.2.2.2.2.2.2.1 r.2.2.2.2.2.2.2.2.2.1 r.2.2.2.2.2.2.2.2.2.2.1 r.2.2.2.2.2.2.2.2.2.2.2.1 r.2.2.2.2.2.2.2.2.2.2.2.2.1 r.2.2.2.2.2.2.2.2.2.2.2.2.2.1 r.2.2.2.2.2.2.2.2.2.2.2.2.2.2.1:=by unfold sh60 at h;unfold kT;omega
theorem cC2 (r:Rl) (v:List UInt8):∃r1:Rl,iA.f (r.1,r.2.1,r.2.2.1,r.2.2.2.1,r.2.2.2.2.1,r.2.2.2.2.2.1,r.2.2.2.2.2.2.1,r.2.2.2.2.2.2.2.1,r.2.2.2.2.2.2.2.2.1,r.2.2.2.2.2.2.2.2.2.1,r.2.2.2.2.2.2.2.2.2.2.1,r.2.2.2.2.2.2.2.2.2.2.2.1,r.2.2.2.2.2.2.2.2.2.2.2.2.1,r.2.2.2.2.2.2.2.2.2.2.2.2.2.1,r.2.2.2.2.2.2.2.2.2.2.2.2.2.2.1,()) (mkS []) (mkS v)=some (false,r1,()):=by rw[iA.f_eq];simp(disch:=decide)only[mE,nm0,nm1,nm2,nm3,nm4,nm5,nm6,nm7,nm8,nm9,nm10,nm11,nm12,nm13,dm,dn,cond_false];rw[iA.l1h_eq];exact⟨_,rfl⟩
theorem tQ1 (p:List (List UInt8)) (hp:p.length≤10000) (hpl:∀s∈p,s.length≤5000):∀(k i:Nat) (r:Rl) (ms:List (List UInt8)),p.length-i=k→i≤p.length→ms.length≤i→sh60 r→[]∉ms→(FREQ∈ms↔r.1≠0)→Both (PA p i r ms) (VA p i r ms):=by
 have hlim:wC=17179869184:=rfl;have hml:(p.map mkS).length=p.length:=hM2 ..;intro k
 induction k with
 | zero=>
  intro i r ms hk hil hms hr hne hfr;have e:i=p.length:=by omega
  subst e;have hC:bC.f (ms.map mkS) ⟨#[70,82,69,81]⟩=some (decide (FREQ∈ms),()):=nK ms FREQ (by omega);have hM:=kE1 r (vF1 hr);obtain⟨b,hb⟩:=qC1 r (vF1 hr);have hMp:xA.f (r.1,r.2.1,r.2.2.1,r.2.2.2.1,r.2.2.2.2.1,r.2.2.2.2.2.1,r.2.2.2.2.2.2.1,r.2.2.2.2.2.2.2.1,r.2.2.2.2.2.2.2.2.1,r.2.2.2.2.2.2.2.2.2.1,r.2.2.2.2.2.2.2.2.2.2.1,r.2.2.2.2.2.2.2.2.2.2.2.1,r.2.2.2.2.2.2.2.2.2.2.2.2.1,r.2.2.2.2.2.2.2.2.2.2.2.2.2.1,r.2.2.2.2.2.2.2.2.2.2.2.2.2.2.1,())=some (b,()):=hb;have hMv:bA.f (r.1,r.2.1,r.2.2.1,r.2.2.2.1,r.2.2.2.2.1,r.2.2.2.2.2.1,r.2.2.2.2.2.2.1,r.2.2.2.2.2.2.2.1,r.2.2.2.2.2.2.2.2.1,r.2.2.2.2.2.2.2.2.2.1,r.2.2.2.2.2.2.2.2.2.2.1,r.2.2.2.2.2.2.2.2.2.2.2.1,r.2.2.2.2.2.2.2.2.2.2.2.2.1,r.2.2.2.2.2.2.2.2.2.2.2.2.2.1,r.2.2.2.2.2.2.2.2.2.2.2.2.2.2.1,())=some (b,()):=hM ▸ hb;unfold PA VA;rw[zA.l1a_eq,bB.l1a_eq];simp(disch:=omega)only[ss,hml,hC];by_cases c:FREQ∈ms
  ·have c0:¬r.1=0:=hfr.1 c;rw[dp c,dn c0];simp(disch:=omega)only[ss,hMp,hMv]
   cases b with
   | false=>exact iC1 0 1
   | true=>exact⟨r,0,0,rfl,rfl,hr⟩
  ·have c0:r.1=0:=Decidable.byContradiction fun q=>c (hfr.2 q)
   rw[dn c,dp c0];exact iC1 0 7
 | succ k ih=>
  intro i r ms hk hil hms hr hne hfr;have hlt:i<p.length:=by omega
  have hg:=gm p i hlt;have hsl:=hpl _ (sC [] hlt);have pt:∀x9:ByteArray,zA.l2a i x9 (p.map mkS) p.length i true 0 0 0 0 0 false r.1 r.2.1 r.2.2.1 r.2.2.2.1 r.2.2.2.2.1 r.2.2.2.2.2.1 r.2.2.2.2.2.2.1 r.2.2.2.2.2.2.2.1 r.2.2.2.2.2.2.2.2.1 r.2.2.2.2.2.2.2.2.2.1 r.2.2.2.2.2.2.2.2.2.2.1 r.2.2.2.2.2.2.2.2.2.2.2.1 r.2.2.2.2.2.2.2.2.2.2.2.2.1 r.2.2.2.2.2.2.2.2.2.2.2.2.2.1 r.2.2.2.2.2.2.2.2.2.2.2.2.2.2.1 (ms.map mkS)=some (zR,(i:Int),4,()):=fun x9=>by rw[zA.l2a_eq,cond_true];rfl
  have vt:∀x9:List ByteArray,bB.l2a (p.map mkS) i x9 true 0 0 0 0 0 false r.1 r.2.1 r.2.2.1 r.2.2.2.1 r.2.2.2.2.1 r.2.2.2.2.2.1 r.2.2.2.2.2.2.1 r.2.2.2.2.2.2.2.1 r.2.2.2.2.2.2.2.2.1 r.2.2.2.2.2.2.2.2.2.1 r.2.2.2.2.2.2.2.2.2.2.1 r.2.2.2.2.2.2.2.2.2.2.2.1 r.2.2.2.2.2.2.2.2.2.2.2.2.1 r.2.2.2.2.2.2.2.2.2.2.2.2.2.1 r.2.2.2.2.2.2.2.2.2.2.2.2.2.2.1 (ms.map mkS)=some (zR,(i:Int),4,()):=fun x9=>by rw[bB.l2a_eq,cond_true];rfl
  generalize hs:p.getD i []=s at hg hsl;have hV:uB.f (mkS s) 61=some ((segs 61 s).map mkS,()):=mL 61 s (by omega);have hsm:((segs 61 s).map mkS).length=(segs 61 s).length:=hM2 ..;unfold PA VA;rw[zA.l1a_eq,bB.l1a_eq];simp(disch:=omega)only[ss,hml,hg,hV];rcases uI (c:=(61:UInt8)) (l:=s)with hno | ⟨a,b,hab,ha⟩
  ·have hc:aE.f (mkS s) ⟨#[61]⟩=some (mkS s,mkS [],false,()):=eW (s:=mkS s) (c:=61) hno;have hl1:((segs 61 s).map mkS).length=1:=by rw[hsm,dK hno];rfl
   rw[hc,hl1];simp(disch:=omega)only[ss,pt,vt];exact iC1 i 4
  ·have hab2:a.length+b.length≤5000:=by rw[hab]at hsl;simp at hsl;omega
   have hc:aE.f (mkS s) ⟨#[61]⟩=some (mkS a,mkS b,true,()):=by rw[hab];exact jR (c:=61) (by omega) ha
   have hsg:segs 61 s=a::segs 61 b:=by rw[hab];exact yJ ha
   have hl2:2≤((segs 61 s).map mkS).length:=by rw[hsm,hsg];have:=hO2.2 (wZ 61 b);simp;omega
   have h0:((segs 61 s).map mkS).getD 0 ByteArray.empty=mkS a:=by rw[hsg];rfl
   generalize (segs 61 s).map mkS=sg at hl2 h0;have hK:=nK ms a (by omega);have hW:=mR ms a (by omega);have hpz:=bQ ms a 0 (by omega);rw[hc];simp(disch:=omega)only[ss,h0,hK,hW];by_cases c:a∈ms
   ·have ha0:a≠[]:=fun q=>hne (q ▸ c)
    rw[dp c,if_neg ha0,dp (show posF 0 ms a≥0 from hpz.1.2 c)];simp(disch:=omega)only[ss,pt,vt];exact iC1 i 4
   ·have hw:¬(if a=[]then(-1:Int)else posF 0 ms a)≥0:=by
     split
     ·omega
     ·exact fun q=>c (hpz.1.1 q)
    rw[dn c,dn hw];have hsz:s.length=a.length+1+b.length:=by rw[hab];simp;omega
    have hx:(mkS s).extract (a.length+1) s.length=mkS b:=lI (by rw[←szS s,qL,B_mk,B_mk,hab,iP2];simp)
    have hvl:∀x,bB.l2a (p.map mkS) i sg false 0 0 0 0 0 false r.1 r.2.1 r.2.2.1 r.2.2.2.1 r.2.2.2.2.1 r.2.2.2.2.2.1 r.2.2.2.2.2.2.1 r.2.2.2.2.2.2.2.1 r.2.2.2.2.2.2.2.2.1 r.2.2.2.2.2.2.2.2.2.1 r.2.2.2.2.2.2.2.2.2.2.1 r.2.2.2.2.2.2.2.2.2.2.2.1 r.2.2.2.2.2.2.2.2.2.2.2.2.1 r.2.2.2.2.2.2.2.2.2.2.2.2.2.1 r.2.2.2.2.2.2.2.2.2.2.2.2.2.2.1 (ms.map mkS)=x↔((xB.f (r.1,r.2.1,r.2.2.1,r.2.2.2.1,r.2.2.2.2.1,r.2.2.2.2.2.1,r.2.2.2.2.2.2.1,r.2.2.2.2.2.2.2.1,r.2.2.2.2.2.2.2.2.1,r.2.2.2.2.2.2.2.2.2.1,r.2.2.2.2.2.2.2.2.2.2.1,r.2.2.2.2.2.2.2.2.2.2.2.1,r.2.2.2.2.2.2.2.2.2.2.2.2.1,r.2.2.2.2.2.2.2.2.2.2.2.2.2.1,r.2.2.2.2.2.2.2.2.2.2.2.2.2.2.1,()) (mkS a) (mkS b)).bind fun t9=>bif !t9.1 then(some (zR,(i:Int),4,()))else VA p (i+1) t9.2.1 (ms++[a]))=x:=fun x=>by
     rw[bB.l2a_eq];simp(disch:=omega)only[ss,h0,hml,hg,szS,gM2,hM2,hlim,hx];have:ms.map mkS++[mkS a]=(ms++[a]).map mkS:=by simp
     rw[this];rfl
    rw[(hvl _).2 rfl];simp only[cond_false];rcases wH1 r.1 r.2.1 r.2.2.1 r.2.2.2.1 r.2.2.2.2.1 r.2.2.2.2.2.1 r.2.2.2.2.2.2.1 r.2.2.2.2.2.2.2.1 r.2.2.2.2.2.2.2.2.1 r.2.2.2.2.2.2.2.2.2.1 r.2.2.2.2.2.2.2.2.2.2.1 r.2.2.2.2.2.2.2.2.2.2.2.1 r.2.2.2.2.2.2.2.2.2.2.2.2.1 r.2.2.2.2.2.2.2.2.2.2.2.2.2.1 r.2.2.2.2.2.2.2.2.2.2.2.2.2.2.1 a b (by omega)with⟨r',e1,e2,h60,hf1,hf2⟩ | ⟨r1,r2,e1,e2⟩
    ·have ha0:a≠[]:=fun q=>by subst q;obtain⟨r1,h1⟩:=cC2 r b;rw[h1]at e1;cases e1
     rw[e1,e2];simp only[eM2,oN2,cond_false]
     have next:=ih (i+1) r' (ms++[a]) (by omega) (by omega) (by simp;omega) (h60 hr) (by
      intro q;rcases pM2.1 q with q | q
      ·exact hne q
      ·rw[kN2]at q;exact ha0 q.symm) (by
      rw[pM2,kN2];by_cases hF:a=FREQ
      ·exact⟨fun _=>hf1 hF,fun _=>.inr hF.symm⟩
      ·rw[hf2 hF]
       exact⟨fun q=>hfr.1 (q.resolve_right fun q=>hF q.symm),fun q=>.inl (hfr.2 q)⟩)
     rw[zA.l2a_eq];simp(disch:=omega)only[ss,hM2,gM2,hlim];have:ms.map mkS++[mkS a]=(ms++[a]).map mkS:=by simp
     rw[this];exact next
    ·rw[e1,e2];simp only[eM2,gO2,cond_true];rw[zA.l2a_eq,cond_true];exact iC1 i 4
theorem gC1 (s:List UInt8) (hs:s.length≤1000000):Both (zA.f (mkS s)) (bB.f (mkS s)):=by
 rw[zA.f_eq,bB.f_eq];by_cases c:(s.length:Int)>4096
 ·simp(disch:=omega)only[ss,szS];exact iC1 0 3
 ·have hsl:=cN 59 s;have hS:pD.f (mkS s) ⟨#[59]⟩=some ((segs 59 s).map mkS,()):=uJ (c:=59) s (by omega);have hV:uB.f (mkS s) 59=some ((segs 59 s).map mkS,()):=mL 59 s (by omega);have hml:((segs 59 s).map mkS).length=(segs 59 s).length:=hM2 ..
  have hR:∀(x:List ByteArray) (n:Int),zA.l1 x n 0 0 0 0 0 0 false 0 1 0 0 0 false []=zA.l1a x n 0 0 0 0 0 0 false 0 1 0 0 0 false [] [] [] [] [] [] [] [] [] []:=fun x n=>by rw[zA.l1_eq,zA.l1a_eq];simp only[zA.l2_eq,zA.l2a_eq,cond_true]
  have hL:∀(x:List ByteArray) (i:Int) (y:List ByteArray) (b:Bool),bB.l2 x i y b 0 0 0 0 0 false 0 1 0 0 0 false []=bB.l2a x i y b 0 0 0 0 0 false 0 1 0 0 0 false [] [] [] [] [] [] [] [] [] []:=fun x i y b=>by rw[bB.l2_eq,bB.l2a_eq]
  have hQ:∀(x:List ByteArray),bB.l1 x 0 0 0 0 0 0 false 0 1 0 0 0 false []=bB.l1a x 0 0 0 0 0 0 false 0 1 0 0 0 false [] [] [] [] [] [] [] [] [] []:=fun x=>by rw[bB.l1_eq,bB.l1a_eq];simp only[hL]
  have:=tQ1 (segs 59 s) (by omega) (fun t ht=>by have:=hsl.2 t ht;omega) _ 0 (0,1,0,0,0,false,[],[],[],[],[],[],[],[],[],()) [] rfl (iM2 _) (oM2 _) (by unfold sh60;simp) (by simp) (by simp);simp(disch:=omega)only[ss,szS,hS,hV,hR,hQ,hml];exact this
end Go.GV.YtidgapgbnlcjgaaGreatDoor
