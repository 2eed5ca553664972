/-
Part of the words that the laws of this seat are proved with: no statement of its own, no conditions.
-/
import Derived.Test.YtegmfagkklekaaaGreatDoorY18
import Derived.Lib.ItoaLen
import Derived.Shelf.Strconv.AtoiAll
set_option linter.unusedVariables false
set_option linter.unusedSimpArgs false
namespace Go.GV.YtegmfagkklekaaaGreatDoor
def dval :Nat→List UInt8→Nat
 | a,[]=>a
 | a,c::l=>dval (10*a+(c.toNat-48)) l
theorem yH :∀(l m:List UInt8) (a:Nat),dval a (l++m)=dval (dval a l) m
 | [],_,_=>rfl
 | c::l,m,a=>yH l m _
theorem xH1 :∀(l:List UInt8) (a:Nat),a≤dval a l
 | [],_=>aK2 _
 | c::l,a=>rM2 (by omega) (xH1 l _)
def dig (c:UInt8):Prop:=48≤c.toNat∧c.toNat≤57
theorem of48 {d:Nat} (h:d<10):(UInt8.ofNat (48+d)).toNat=48+d:=by rw[UInt8.toNat_ofNat',dN2 (by omega)]
theorem xY :∀(u:Nat),∀c∈Lib.decDigits u,dig c:=by
 intro u
 induction u using Nat.strongRecOn with
 | ind u ih=>
  intro c hc;rw[Lib.decDigits]at hc;by_cases h:u<10
  ·rw[dif_pos h,vK2]at hc;subst hc;unfold dig;rw[of48 h];omega
  ·rw[dif_neg h]at hc;rcases gK2.1 hc with h1 | h1
   ·exact ih (u/10) (by omega) c h1
   ·rw[vK2]at h1;subst h1;unfold dig;rw[of48 (by omega)];omega
theorem kN (u:Nat):dval 0 (Lib.decDigits u)=u:=by
 induction u using Nat.strongRecOn with
 | ind u ih=>
  by_cases h:u<10
  ·have e:Lib.decDigits u=[UInt8.ofNat (48+u)]:=by rw[Lib.decDigits,dif_pos h]
   have h8:=of48 h;rw[e];generalize UInt8.ofNat (48+u)=c at h8;show 10*0+(c.toNat-48)=u;omega
  ·have e:Lib.decDigits u=Lib.decDigits (u/10)++[UInt8.ofNat (48+u%10)]:=by rw[Lib.decDigits,dif_neg h]
   rw[e,yH,ih (u/10) (by omega)];have h8:=of48 (show u%10<10 by omega);generalize UInt8.ofNat (48+u%10)=c at h8;show 10*(u/10)+(c.toNat-48)=u;omega
theorem mN1 (u:Nat):(Lib.decDigits u).length=Lib.nDigits u:=Lib.decDigits_length u
theorem mT1 (u:Nat):0<(Lib.decDigits u).length:=by rw[mN1];exact Lib.nDigits_pos u
theorem D_ne (u:Nat):Lib.decDigits u≠[]:=fun h=>by have:=mT1 u;rw[h]at this;simp at this
theorem jI (u:Nat):(Lib.decDigits u).length≤9↔u≤999999999:=by
 rw[mN1];have up:∀(k u:Nat),u<10 ^ (k+1)→Lib.nDigits u≤k+1:=by
  intro k
  induction k with
  | zero=>intro u h;rw[Lib.nDigits_small (by simpa using h)];omega
  | succ k ih=>
   intro u h;by_cases hu:u<10
   ·rw[Lib.nDigits_small hu];omega
   ·rw[Lib.nDigits_big hu];have:=ih (u/10) (by rw[Nat.pow_succ]at h;omega);omega
 have dn:∀(k u:Nat),10 ^ k≤u→k+1≤Lib.nDigits u:=by
  intro k
  induction k with
  | zero=>intro u h;exact Lib.nDigits_pos u
  | succ k ih=>
   intro u h;have h1:0<10 ^ k:=Nat.pow_pos (by decide);rw[Nat.pow_succ]at h;rw[Lib.nDigits_big (by omega)];have:=ih (u/10) (by omega);omega
 constructor
 ·intro h;refine Nat.le_of_not_lt fun hu=>?_
  have:=dn 9 u (by omega);omega
 ·intro h;exact up 8 u (by omega)
theorem eE1 (u:Nat) (h:u<18446744073709551616):(Lib.decDigits u).length≤20:=by rw[mN1];exact Lib.nDigits_le20 u h
theorem cM1 (l:List UInt8):∀(a:Nat),(∀c∈l,dig c)→dval a l<1844674407370955161→Lib.parseUint10 a l = .ok (dval a l):=by
 induction l with
 | nil=>intro a _ _;rfl
 | cons c l ih=>
  intro a hd hv;have hc:=hd c zJ2;have h1:=xH1 l (10*a+(c.toNat-48));have hv:dval (10*a+(c.toNat-48)) l<1844674407370955161:=hv;show _=Lib.NumEnd.ok (dval (10*a+(c.toNat-48)) l);unfold dig at hc;have e:a*10+(c.toNat-48)=10*a+(c.toNat-48):=by omega
  rw[Lib.parseUint10,if_pos hc,if_neg (by omega),if_neg (by omega),e];exact ih _ (fun x hx=>hd x (wJ2 _ hx)) hv
def isN (s:List UInt8) (n:Int):Prop:=s=Lib.itoa n ∧ -999999999≤n∧n≤999999999
theorem cG {n:Int} (h:n<0):Lib.itoa n=45::Lib.decDigits n.natAbs:=by unfold Lib.itoa;rw[if_pos h]
theorem iF {n:Int} (h:¬n<0):Lib.itoa n=Lib.decDigits n.toNat:=by unfold Lib.itoa;rw[if_neg h]
theorem eB1 {u:Nat} {c:UInt8} {r:List UInt8} (h:Lib.decDigits u=c::r):c.toNat≠43∧c.toNat≠45:=by have:=xY u c (by rw[h];exact zJ2);unfold dig at this;omega
theorem wW1 {n m:Int} (h:Lib.itoa n=Lib.itoa m):n=m:=by
 by_cases h1:n<0
 ·by_cases h2:m<0
  ·rw[cG h1,cG h2]at h;have:=congrArg (dval 0) (dM2 h).2;rw[kN,kN]at this;omega
  ·rw[cG h1,iF h2]at h;exact absurd rfl (eB1 h.symm).2
 ·by_cases h2:m<0
  ·rw[iF h1,cG h2]at h;exact absurd rfl (eB1 h).2
  ·rw[iF h1,iF h2]at h;have:=congrArg (dval 0) h;rw[kN,kN]at this;omega
theorem mZ {n:Int} (h0: -999999999≤n) (h1:n≤999999999):Lib.atoiAll (Lib.itoa n) = .ok n:=by
 by_cases hn:n<0
 ·rw[cG hn];unfold Lib.atoiAll Lib.parseMag;simp only;have e45:UInt8.toNat 45=45:=rfl;simp only[e45,or_true,if_true,not_true,false_and,if_false,true_and];rw[if_neg (D_ne _),cM1 _ 0 (xY _) (by rw[kN];omega),kN];simp only;rw[if_neg (by omega)]
  congr 1
  omega
 ·rw[iF hn]
  cases hD:Lib.decDigits n.toNat with
  | nil=>exact absurd hD (D_ne _)
  | cons c r=>
   obtain⟨q1,q2⟩:=eB1 hD;unfold Lib.atoiAll Lib.parseMag;simp only;rw[if_neg (show ¬(c.toNat=43∨c.toNat=45)from fun q=>q.elim q1 q2),if_neg (by simp),←hD,cM1 _ 0 (xY _) (by rw[kN];omega),kN];simp only;rw[if_neg (by omega),if_neg (fun q=>q2 q.1),if_neg q2]
   congr 1
   omega
theorem bO (n:Int):(((Lib.itoa n).length:Int)-(if n<0 then 1 else 0)≤9) ↔ -999999999≤n∧n≤999999999:=by
 by_cases hn:n<0
 ·rw[cG hn,if_pos hn,yJ2];have:=jI n.natAbs;omega
 ·rw[iF hn,if_neg hn];have:=jI n.toNat;omega
theorem qN1 {n:Int} (h0: -9223372036854775808≤n) (h1:n≤9223372036854775807):(Lib.itoa n).length≤21:=by
 by_cases hn:n<0
 ·rw[cG hn,yJ2];have:=eE1 n.natAbs (by omega);omega
 ·rw[iF hn];have:=eE1 n.toNat (by omega);omega
open Go.Proofs
theorem szS (l:List UInt8):(mkS l).size=l.length:=by rw[wT,B_mk]
theorem uJ {a b:List UInt8} (h:mkS a=mkS b):a=b:=by have:=congrArg B h;simpa[B_mk]using this
theorem sK1 {d:Nat} (h:d<10):wJ [IntKind.u8.wrap ((48:Int)+(d:Int))]=mkS [UInt8.ofNat (48+d)]:=by refine fI ?_;rw[hS1,B_mk,Go.IntWalk.u8_in _ ⟨by omega,by omega⟩];simp only[wK2,aN2];rw[show((48:Int)+(d:Int)).toNat=48+d by omega]
theorem td10 {n:Int} (h:0≤n):Int.tdiv n 10=n/10:=Int.tdiv_eq_ediv_of_nonneg h
theorem tm10 {n:Int} (h:0≤n):Int.tmod n 10=n%10:=mM2 h
theorem wE2 {n:Int} (h:n≤0):Int.tdiv n 10 = -((-n)/10):=by
 have:Int.tdiv n 10 = -Int.tdiv (-n) 10:=by rw[Int.neg_tdiv,Int.neg_neg]
 rw[this,td10 (by omega)]
theorem hJ2 {n:Int} (h:n≤0):Int.tmod n 10 = -((-n)%10):=by
 have:Int.tmod n 10 = -Int.tmod (-n) 10:=by rw[Int.neg_tmod,Int.neg_neg]
 rw[this,tm10 (by omega)]
theorem qH1 :∀(u:Nat),(u:Int)≤9223372036854775807→bE.f (u:Int)=some (mkS (Lib.decDigits u),()):=by
 intro u
 induction u using Nat.strongRecOn with
 | ind u ih=>
  intro hu;rw[bE.f_eq,Lib.decDigits];by_cases h:u<10
  ·rw[dif_pos h];simp(disch:=omega)only[ss];rw[sK1 h]
  ·rw[dif_neg h];have e1:Int.tdiv (u:Int) 10=((u/10:Nat):Int):=by rw[td10 (by omega)];omega
   have e2:Int.tmod (u:Int) 10=((u%10:Nat):Int):=by rw[tm10 (by omega)];omega
   have h1:=ih (u/10) (by omega) (by omega);have h2:=eE1 (u/10) (by omega);simp(disch:=omega)only[ss,e1,e2,h1,szS,sK1 (show u%10<10 by omega),sJ2];rw[aE]
theorem uQ (n:Int) (h0: -9223372036854775808≤n) (h1:n≤9223372036854775807):bE.f n=some (mkS (Lib.itoa n),()):=by
 by_cases hn:n<0
 ·rw[cG hn,Lib.decDigits,bE.f_eq];have e1:Int.tdiv n 10 = -((n.natAbs/10:Nat):Int):=by rw[wE2 (by omega)];omega
  have e2:Int.tmod n 10 = -((n.natAbs%10:Nat):Int):=by rw[hJ2 (by omega)];omega
  have e3:(48:Int) - -((n.natAbs%10:Nat):Int)=48+((n.natAbs%10:Nat):Int):=by omega
  have hm:(⟨#[45]⟩:ByteArray)=mkS [45]:=rfl;by_cases h:n.natAbs<10
  ·have e4:n.natAbs/10=0:=by omega
   rw[dif_pos h];simp(disch:=omega)only[ss,e1,e2,e3,hm,szS,sK1 (show n.natAbs%10<10 by omega),sJ2];rw[aE,dN2 h];rfl
  ·have e5:w6 (0-w6 (-((n.natAbs/10:Nat):Int)))=((n.natAbs/10:Nat):Int):=by simp(disch:=omega)only[ss];omega
   have h1:=qH1 (n.natAbs/10) (by omega);have h2:=eE1 (n.natAbs/10) (by omega);have e6:¬(-((n.natAbs/10:Nat):Int))=0:=by omega
   rw[dif_neg h];rw[e1,e2,e5,h1];simp(disch:=omega)only[ss,e3,hm,szS,sK1 (show n.natAbs%10<10 by omega),sJ2,aE,pJ2];rfl
 ·obtain⟨u,rfl⟩:=yK2 (show 0≤n by omega);rw[qH1 u h1,iF hn];rfl
theorem bK (n:Int) (h0: -9223372036854775808≤n) (h1:n≤9223372036854775807):mD.f n=some (mkS (Lib.itoa n),()):=by rw[mD.f_sem];show wD2 n=_;unfold wD2;rw[dp h0,dp h1,cond_true,cond_true,wL1 h0 h1];rfl
theorem mV (s:List UInt8) (hs:s.length≤1000000):eH.f (mkS s)=some ((yK (mkS s)).1,(yK (mkS s)).2,()):=by rw[eH.f_sem];show hC2 (mkS s)=_;unfold hC2;rw[dp (by rw[szS];omega),cond_true]
theorem uD1 (s:ByteArray): -9223372036854775808≤(yK s).1∧(yK s).1≤9223372036854775807:=by
 unfold yK
 cases h:Lib.atoiAll s.data.toList with
 | ok v=>exact Lib.atoiAll_bounds h
 | range=>exact Lib.atoiSat_bounds _
 | _=>exact⟨by show(-9223372036854775808:Int)≤0;omega,by show(0:Int)≤9223372036854775807;omega⟩
theorem yR (s:List UInt8) (hs:s.length≤1000000):uE.f (mkS s) ⟨#[45]⟩=some (mkS (if s.head?=some 45 then s.tail else s),()):=by
 have hp:eD.f (mkS s) ⟨#[45]⟩=some (decide (s.head?=some 45),()):=rW s 45;rw[uE.f_eq,rF.f_eq,hp];have hz:(⟨#[45]⟩:ByteArray).size=1:=rfl;by_cases h:s.head?=some 45
 ·have h1:0<s.length:=by cases s with
   | nil=>simp at h
   | cons _ _=>simp
  simp(disch:=omega)only[ss,hz,szS,if_pos h,gL2];rw[show(mkS s).extract 1 s.length=mkS s.tail from fI (by rw[←szS s,iL,B_mk,B_mk,List.drop_one])]
 ·simp(disch:=omega)only[ss,if_neg h]
theorem qK (s:List UInt8) (hs:s.length≤1000000):
  (∃n,isN s n∧vE.f (mkS s)=some (n,true,()))∨((∀n,¬isN s n) ∧ ∃n,vE.f (mkS s)=some (n,false,())):=by
 have hr:=uD1 (mkS s);have hA:=mV s hs;rw[vE.f_eq,hA];simp only[qJ2];have small:∀n,isN s n→yK (mkS s)=(n,true):=by rintro n ⟨rfl,h0,h1⟩;unfold yK;rw[show(mkS (Lib.itoa n)).data.toList=Lib.itoa n from rfl,mZ h0 h1]
 generalize hp:yK (mkS s)=p at hr small;obtain⟨n,b⟩:=p;simp only at hr small ⊢
 cases b with
 | false=>exact .inr ⟨fun m hm=>(by have:=small m hm;cases this),n,rfl⟩
 | true=>
  have hI:=bK n hr.1 hr.2;have hT:=yR s hs;rw[cond_true,hI];simp only[qJ2,kE];by_cases he:mkS (Lib.itoa n)=mkS s
  ·have he':=uJ he;rw[dp he,cond_true,hT];simp only[qJ2,szS]
   have hl:((if s.head?=some 45 then s.tail else s).length:Int)=(Lib.itoa n).length-(if n<0 then 1 else 0):=by
    rw[←he'];by_cases hn:n<0
    ·rw[cG hn,if_pos hn,if_pos (show(45::Lib.decDigits n.natAbs).head?=some 45 from rfl)];simp
    ·rw[iF hn,if_neg hn,if_neg]
     ·simp
     ·intro q
      cases hD:Lib.decDigits n.toNat with
      | nil=>exact D_ne _ hD
      | cons c r=>
       rw[hD]at q;simp at q;have:=(eB1 hD).2;rw[q]at this;exact this rfl
   rw[hl];by_cases h9: -999999999≤n∧n≤999999999
   ·rw[dp ((bO n).2 h9)];exact .inl ⟨n,⟨he'.symm,h9⟩,rfl⟩
   ·rw[dn fun q=>h9 ((bO n).1 q)];refine .inr ⟨fun m hm=>?_,n,rfl⟩;have:=small m hm;simp only[Prod.mk.injEq,and_true]at this;subst this;exact h9 hm.2
  ·rw[dn he,cond_false];refine .inr ⟨fun m hm=>?_,n,rfl⟩;have:=small m hm;simp only[Prod.mk.injEq,and_true]at this;subst this;exact he (by rw[hm.1])
theorem nP1 (s:List UInt8) (m:Int) (h0: -9223372036854775808≤m) (h1:m≤9223372036854775807):xA.l6 (mkS s) m=some (m,decide (s=Lib.itoa m),()):=by rw[xA.l6_eq,uQ m h0 h1];simp only[qJ2,kE];rw[show decide (mkS (Lib.itoa m)=mkS s)=decide (s=Lib.itoa m)from decide_eq_decide.2 ⟨fun h=>(uJ h).symm,fun h=>by rw[←h]⟩]
def sN1 (s:List UInt8) (r:Option (Int×Bool×Unit)):Prop:=∃m b,r=some (m,b,()) ∧ -9223372036854775808≤m∧m≤9223372036854775807∧(b=true→s=Lib.itoa m)
theorem jF2 (s:List UInt8) (neg:Bool) (d:List UInt8) (hd:d.length≤19):∀(k i v:Nat),d.length-i=k→i≤d.length→v≤9223372036854775808 →
  sN1 s (xA.l4 (mkS s) neg (mkS d) (-(v:Int)) i) ∧
  ((∀c∈d.drop i,dig c)→dval v (d.drop i)≤999999999→xA.l4 (mkS s) neg (mkS d) (-(v:Int)) i=xA.l6 (mkS s) (if neg=true then -(dval v (d.drop i):Int)else dval v (d.drop i))):=by
 have fail:∀m:Int,m=0→sN1 s (some (m,false,())):=fun m hm=>⟨m,false,rfl,by omega,by omega,by simp⟩
 have good:∀m:Int,-9223372036854775808≤m→m≤9223372036854775807→sN1 s (xA.l6 (mkS s) m):=fun m h0 h1=>⟨m,_,nP1 s m h0 h1,h0,h1,fun h=>of_decide_eq_true h⟩
 intro k
 induction k with
 | zero=>
  intro i v hk hi hv;have e:i=d.length:=by omega
  subst e;rw[xA.l4_eq,fL2];simp(disch:=omega)only[ss,szS]
  cases neg with
  | true=>
   simp(disch:=omega)only[ss];exact⟨good _ (by omega) (by omega),fun _ _=>rfl⟩
  | false=>
   simp(disch:=omega)only[ss];by_cases hm:(-(v:Int)) = -9223372036854775808
   ·simp(disch:=omega)only[ss];refine⟨fail 0 rfl,fun _ hq=>absurd hm ?_⟩;have hq:v≤999999999:=hq;clear hm hv good fail;omega
   ·simp(disch:=omega)only[ss];have e2:(0:Int) - -(v:Int)=v:=by omega
    rw[e2];exact⟨good _ (by omega) (by omega),fun _ _=>rfl⟩
 | succ k ih=>
  intro i v hk hi hv;have hlt:i<d.length:=by omega
  have hbt:bt (mkS d) (i:Int)=((d.getD i 0).toNat:Int):=cI (mkS d) i;have hc:=oF2 (d.getD i 0);rw[xA.l4_eq,qC 0 hlt];simp(disch:=omega)only[ss,szS,hbt];by_cases c1:((d.getD i 0).toNat:Int)-48<0
  ·simp(disch:=omega)only[ss,xA.l5_eq];refine⟨fail 0 rfl,fun hq=>?_⟩;have:=hq _ zJ2;unfold dig at this;omega
  ·by_cases c2:((d.getD i 0).toNat:Int)-48>9
   ·simp(disch:=omega)only[ss,xA.l5_eq];refine⟨fail 0 rfl,fun hq=>?_⟩;have:=hq _ zJ2;unfold dig at this;omega
   ·have e1:Int.tdiv (-9223372036854775808+(((d.getD i 0).toNat:Int)-48)) 10 = -((9223372036854775808-(((d.getD i 0).toNat:Int)-48))/10):=by
     rw[wE2 (by omega)]
     congr 2
     omega
    simp(disch:=omega)only[ss,e1];by_cases c3: -(v:Int) < -((9223372036854775808-(((d.getD i 0).toNat:Int)-48))/10)
    ·simp(disch:=omega)only[ss,xA.l5_eq];refine⟨fail 0 rfl,fun hq hv2=>?_⟩;have h1:=xH1 (d.drop (i+1)) (10*v+((d.getD i 0).toNat-48));have hv2:dval (10*v+((d.getD i 0).toNat-48)) (d.drop (i+1))≤999999999:=hv2;omega
    ·have e2:(10:Int) * -(v:Int)-(((d.getD i 0).toNat:Int)-48) = -((10*v+((d.getD i 0).toNat-48):Nat):Int):=by omega
     simp(disch:=omega)only[ss,xA.l5_eq];rw[e2];obtain⟨h1,h2⟩:=ih (i+1) (10*v+((d.getD i 0).toNat-48)) (by omega) (by omega) (by omega);exact⟨h1,fun hq hv2=>h2 (fun c hc=>hq c (wJ2 _ hc)) hv2⟩
theorem uP1 (s:List UInt8) (neg:Bool) (d:List UInt8):sN1 s (xA.l2 (mkS s) neg (mkS d)) ∧
  ((∀c∈d,dig c)→0<d.length→d.length≤19→dval 0 d≤999999999→xA.l2 (mkS s) neg (mkS d)=xA.l6 (mkS s) (if neg=true then -(dval 0 d:Int)else dval 0 d)):=by
 have fail:sN1 s (some (0,false,())):=⟨0,false,rfl,by omega,by omega,by simp⟩
 rw[xA.l2_eq];by_cases c1:(d.length:Int)<1
 ·simp(disch:=omega)only[ss,szS,xA.l3_eq];exact⟨fail,fun _ h=>by omega⟩
 ·by_cases c2:(d.length:Int)>19
  ·simp(disch:=omega)only[ss,szS,xA.l3_eq];exact⟨fail,fun _ _ h=>by omega⟩
  ·simp(disch:=omega)only[ss,szS,xA.l3_eq];obtain⟨h1,h2⟩:=jF2 s neg d (by omega) _ 0 0 rfl (xJ2 _) (by omega);rw[fK2,Int.neg_zero]at h1 h2;rw[oK2]at h2;exact⟨h1,fun q1 _ _ q2=>h2 q1 q2⟩
theorem hL1 (s:List UInt8):sN1 s (xA.f (mkS s)) ∧ ∀n,isN s n→xA.f (mkS s)=some (n,true,()):=by
 have hbt:bt (mkS s) 0=((s.getD 0 0).toNat:Int):=cI (mkS s) 0
 cases s with
 | nil=>
  have h0:=uP1 [] false [];rw[xA.f_eq];simp(disch:=omega)only[ss,szS,jK2,fK2,xA.l1_eq];refine⟨h0.1,fun n hn=>?_⟩;obtain⟨h1,_⟩:=hn;unfold Lib.itoa at h1;split at h1
  ·cases h1
  ·exact absurd h1.symm (D_ne _)
 | cons c r=>
  have hg:(c::r).getD 0 0=c:=rfl;rw[hg]at hbt;rw[xA.f_eq];by_cases hc:(c.toNat:Int)=45
  ·have e1:(mkS (c::r)).extract 1 (r.length+1)=mkS r:=fI (by rw[show r.length+1=(mkS (c::r)).size by rw[szS];rfl,iL,B_mk,B_mk];rfl);have h0:=uP1 (c::r) true r;have h45:c=45:=(aC2 c 45 (by decide)).1 (show(c.toNat:Int)=((45:Nat):Int)from hc);simp(disch:=omega)only[ss,szS,yJ2,hbt,xA.l1_eq,e1];refine⟨h0.1,fun n hn=>?_⟩;obtain⟨h1,h2,h3⟩:=hn;by_cases hneg:n<0
   ·rw[cG hneg]at h1;have hr:=(dM2 h1).2;have h9:=(jI n.natAbs).2 (by omega);rw[h0.2 (by rw[hr];exact xY _) (by rw[hr];exact mT1 _) (by rw[hr];omega) (by rw[hr,kN];omega),if_pos rfl,hr,kN,nP1 _ _ (by omega) (by omega)];have e2: -((n.natAbs:Nat):Int)=n:=by omega
    rw[e2,dp (by rw[cG hneg,h45])]
   ·rw[iF hneg]at h1;exact absurd (by rw[h45];rfl) (eB1 h1.symm).2
  ·have h0:=uP1 (c::r) false (c::r);simp(disch:=omega)only[ss,szS,yJ2,hbt,xA.l1_eq];refine⟨h0.1,fun n hn=>?_⟩;obtain⟨h1,h2,h3⟩:=hn;by_cases hneg:n<0
   ·rw[cG hneg]at h1;have:=(dM2 h1).1;subst this;exact absurd rfl hc
   ·rw[iF hneg]at h1;have h9:=(jI n.toNat).2 (by omega);rw[h0.2 (by rw[h1];exact xY _) (by rw[h1];exact mT1 _) (by rw[h1];omega) (by rw[h1,kN];omega),if_neg (by simp),nP1 _ _ (by omega) (by rw[h1,kN];omega)];have e2:((dval 0 (c::r):Nat):Int)=n:=by rw[h1,kN];omega
    rw[e2,dp (by rw[iF hneg,h1])]
theorem rJ (s:List UInt8) (hs:s.length≤1000000):
  (∃n,isN s n∧hE.f (mkS s)=some (n,true,()))∨((∀n,¬isN s n) ∧ ∃n,hE.f (mkS s)=some (n,false,())):=by
 obtain⟨⟨m,b,h1,h2,h3,h4⟩,h5⟩:=hL1 s;by_cases hn:∃n,isN s n
 ·obtain⟨n,hn⟩:=hn;have h6:=h5 n hn;have h7:=(bO n).2 hn.2;rw[←hn.1]at h7;refine .inl ⟨n,hn,?_⟩;rw[hE.f_eq,h6];by_cases c1:n<0
  ·rw[if_pos c1]at h7;simp(disch:=omega)only[ss,szS]
  ·rw[if_neg c1]at h7;simp(disch:=omega)only[ss,szS]
 ·refine .inr ⟨fun n h=>hn ⟨n,h⟩,m,?_⟩;rw[hE.f_eq,h1]
  cases b with
  | false=>
   by_cases c1:m<0
   ·simp(disch:=omega)only[ss]
   ·simp(disch:=omega)only[ss]
  | true=>
   have he:=h4 rfl;have h7:¬((s.length:Int)-(if m<0 then 1 else 0)≤9):=fun q=>hn ⟨m,he,(bO m).1 (by rw[←he];exact q)⟩
   by_cases c1:m<0
   ·rw[if_pos c1]at h7;simp(disch:=omega)only[ss,szS]
   ·rw[if_neg c1]at h7;simp(disch:=omega)only[ss,szS]
abbrev lM (l:List Int):Prop:=l.Pairwise (· < ·)
theorem wS :∀{a b:List Int},lM a→lM b→(∀x,x∈a↔x∈b)→a=b
 | [],[],_,_,_=>rfl
 | [],y::b,_,_,h=>by have:=(h y).2 zJ2;cases this
 | x::a,[],_,_,h=>by have:=(h x).1 zJ2;cases this
 | x::a,y::b,ha,hb,h=>by
  have ha:=aL2.1 ha;have hb:=aL2.1 hb;have e:x=y:=by
   have h1:=(h x).1 zJ2;have h2:=(h y).2 zJ2;rcases uJ2.1 h1 with h1 | h1
   ·exact h1
   ·rcases uJ2.1 h2 with h2 | h2
    ·exact h2.symm
    ·have:=hb.1 x h1;have:=ha.1 y h2;omega
  subst e;rw[wS ha.2 hb.2 fun z=>?_];have h3:=h z;simp only[uJ2]at h3;constructor
  ·intro hz;rcases h3.1 (.inr hz)with h4 | h4
   ·have:=ha.1 z hz;omega
   ·exact h4
  ·intro hz;rcases h3.2 (.inr hz)with h4 | h4
   ·have:=hb.1 z hz;omega
   ·exact h4
theorem pT1 (l:List Int) (i:Nat) (hi:i<l.length) (hl:l.length≤1000000) (y:List Int) (hy:y.length≤1000000):∀(k q:Nat),y.length-q=k→q≤y.length→(∀j,j<q→y.getD j 0<l.getD i 0) →
  ∃q':Nat,q'≤y.length∧oA.l2 l i q y=oA.l4 l i q' y∧(∀j,j<q'→y.getD j 0<l.getD i 0)∧(q'<y.length→l.getD i 0≤y.getD q' 0):=by
 intro k
 induction k with
 | zero=>
  intro q hk hq h;refine⟨q,hq,?_,h,fun h=>by omega⟩;rw[oA.l2_eq];simp(disch:=omega)only[ss,oA.l3_eq]
 | succ k ih=>
  intro q hk hq h;rw[oA.l2_eq];by_cases hc:y.getD q 0<l.getD i 0
  ·simp(disch:=omega)only[ss,oA.l3_eq];refine ih (q+1) (by omega) (by omega) fun j hj=>?_
   by_cases e:j=q
   ·subst e;exact hc
   ·exact h j (by omega)
  ·simp(disch:=omega)only[ss,oA.l3_eq];exact⟨q,hq,rfl,h,fun _=>by omega⟩
theorem wU1 (l:List Int) (hl:l.length≤1000000):∀(k i:Nat) (y:List Int),l.length-i=k→i≤l.length→y.length≤i→lM y →
  ∃r,oA.l1 l i y=some (r,())∧lM r ∧ ∀x,x∈r↔x∈y∨x∈l.drop i:=by
 have hlim:pC=17179869184:=rfl;intro k
 induction k with
 | zero=>
  intro i y hk hi hy hr;have e:i=l.length:=by omega
  subst e;rw[oA.l1_eq];simp(disch:=omega)only[ss];exact⟨y,rfl,hr,fun x=>by simp⟩
 | succ k ih=>
  intro i y hk hi hy hr;have hlt:i<l.length:=by omega
  obtain⟨q,h1,h2,h3,h4⟩:=pT1 l i hlt hl y (by omega) _ 0 rfl (xJ2 _) fun j hj=>by omega
  rw[oA.l1_eq];rw[fK2]at h2;simp(disch:=omega)only[ss,h2];rw[qC 0 hlt,oA.l4_eq];have ins:(q<y.length→l.getD i 0<y.getD q 0) → ∃r,oA.l6 l i q y=some (r,())∧lM r ∧ ∀x,x∈r↔x∈y∨x∈l.getD i 0::l.drop (i+1):=by
   intro h5;have hp:=cY1 y (l.getD i 0) q;have hs:lM (y.take q++([l.getD i 0]++y.drop q)):=by
    refine aN1 hr (fun a ha=>?_) fun a ha=>?_
    ·obtain⟨j,hj,e⟩:=zM2 ha;rw[dK2]at hj;rw[List.getElem_take]at e;have:=h3 j (by omega);rw[bI 0 (by omega),e]at this;exact this
    ·obtain⟨j,hj,e⟩:=zM2 ha;rw[sK2]at hj;rw[List.getElem_drop]at e;have a1:=h5 (by omega);rw[bI 0 (show q<y.length by omega)]at a1;by_cases hj0:j=0
     ·subst hj0;simp only[tM2]at e;rw[←e];exact a1
     ·have:=List.pairwise_iff_getElem.1 hr q (q+j) (by omega) (by omega) (by omega);rw[e]at this;omega
   obtain⟨r,b1,b2,b3⟩:=ih (i+1) _ (by omega) (by omega) (by rw[hp.length_eq];simp;omega) hs;refine⟨r,?_,b2,fun x=>?_⟩
   ·rw[oA.l6_eq];simp(disch:=omega)only[ss,sJ2,pJ2,dK2,sK2,hlim];exact b1
   ·rw[b3,hp.mem_iff,uJ2,uJ2];constructor
    ·rintro((h | h) | h)
     ·exact .inr (.inl h)
     ·exact .inl h
     ·exact .inr (.inr h)
    ·rintro(h | h | h)
     ·exact .inl (.inr h)
     ·exact .inl (.inl h)
     ·exact .inr h
  by_cases hq:q<y.length
  ·by_cases he:y.getD q 0=l.getD i 0
   ·simp(disch:=omega)only[ss,oA.l5_eq];obtain⟨r,b1,b2,b3⟩:=ih (i+1) y (by omega) (by omega) (by omega) hr;refine⟨r,b1,b2,fun x=>?_⟩;have hm:l.getD i 0∈y:=by rw[←he];exact yC 0 hq
    rw[b3,uJ2];constructor
    ·rintro(h | h)
     ·exact .inl h
     ·exact .inr (.inr h)
    ·rintro(h | h | h)
     ·exact .inl h
     ·exact .inl (h ▸ hm)
     ·exact .inr h
   ·simp(disch:=omega)only[ss,oA.l5_eq];exact ins fun h=>by have:=h4 h;omega
  ·simp(disch:=omega)only[ss,oA.l5_eq];exact ins fun h=>by omega
theorem oY (l:List Int) (hl:l.length≤1000000):∃r,oA.f l=some (r,())∧lM r ∧ ∀x,x∈r↔x∈l:=by obtain⟨r,h1,h2,h3⟩:=wU1 l hl _ 0 [] rfl (xJ2 _) (aK2 _) List.Pairwise.nil;refine⟨r,?_,h2,fun x=>by rw[h3];simp⟩;rw[oA.f_eq];exact h1
def dd :Int→List Int→List Int
 | _,[]=>[]
 | p,a::l=>if a=p then dd a l else a::dd a l
theorem nQ1 :∀(l:List Int) (p x:Int),x∈dd p l∨x=p↔x∈l∨x=p
 | [],p,x=>by simp[dd]
 | a::l,p,x=>by
  unfold dd;have ih:=nQ1 l a x;by_cases h:a=p
  ·subst h;rw[if_pos rfl,ih,uJ2];constructor
   ·rintro(h | h)
    ·exact .inl (.inr h)
    ·exact .inr h
   ·rintro((h | h) | h)
    ·exact .inr h
    ·exact .inl h
    ·exact .inr h
  ·rw[if_neg h,uJ2,uJ2];constructor
   ·rintro((h1 | h1) | h1)
    ·exact .inl (.inl h1)
    ·rcases ih.1 (.inl h1)with h2 | h2
     ·exact .inl (.inr h2)
     ·exact .inl (.inl h2)
    ·exact .inr h1
   ·rintro((h1 | h1) | h1)
    ·exact .inl (.inl h1)
    ·rcases ih.2 (.inl h1)with h2 | h2
     ·exact .inl (.inr h2)
     ·exact .inl (.inl h2)
    ·exact .inr h1
theorem sC1 :∀(l:List Int) (p:Int),(p::l).Pairwise (· ≤ ·)→lM (p::dd p l)
 | [],p,_=>List.pairwise_singleton _ _
 | a::l,p,h=>by
  unfold dd;rw[aL2]at h;have ih:=sC1 l a h.2;by_cases he:a=p
  ·subst he;rw[if_pos rfl];exact ih
  ·rw[if_neg he];have hlt:p<a:=by have:=h.1 a zJ2;omega
   refine aL2.2 ⟨fun b hb=>?_,ih⟩;rcases uJ2.1 hb with rfl | hb
   ·exact hlt
   ·have:=(aL2.1 ih).1 b hb;omega
def dds :List Int→List Int
 | []=>[]
 | a::l=>a::dd a l
theorem jE2 (N:Nat) (hN:N≤1000000) (b:Nat):∀(k i q:Nat) (y:List Int),y.length=N→N-(b+q)=k→1≤q→i<b+q→b+q≤N →
  jA.l3 i b q y=some (y.take i++dd (y.getD (b+q-1) 0) (y.drop (b+q)),()):=by
 intro k
 induction k with
 | zero=>
  intro i q y hy hk hq hi hb;have e:b+q=y.length:=by omega
  have e2:(y.take i++List.replicate (y.length-i) 0).take i=y.take i:=by rw[qM2 (by rw[dK2];omega),List.take_take,Nat.min_self]
  rw[jA.l3_eq,e,fL2];simp(disch:=omega)only[ss,pJ2,dK2,List.length_replicate,e2,jA.l4_eq,dd,cK2]
 | succ k ih=>
  intro i q y hy hk hq hi hb;have hlt:b+q<y.length:=by omega
  have w1:w6 ((q:Int)-1)=((q-1:Nat):Int):=uS (by omega) (by omega);have w2:((b:Int)+((q-1:Nat):Int)).toNat=b+q-1:=by omega
  have e1:((q:Int)<((y.length-b:Nat):Int)):=by omega
  rw[jA.l3_eq,qC 0 hlt];simp(disch:=omega)only[ss,w1,w2,e1,sK2,dd];by_cases hc:y.getD (b+q) 0=y.getD (b+q-1) 0
  ·simp(disch:=omega)only[ss,if_pos hc];have:=ih i (q+1) y hy (by omega) (by omega) (by omega) (by omega);rw[show b+(q+1)-1=b+q by omega,show b+(q+1)=b+q+1 by omega]at this;exact this
  ·simp(disch:=omega)only[ss,if_neg hc];have:=ih (i+1) (q+1) (y.set i (y.getD (b+q) 0)) (by simp[hy]) (by omega) (by omega) (by omega) (by omega);refine this.trans ?_;have g1:(y.set i (y.getD (b+q) 0)).getD (b+(q+1)-1) 0=y.getD (b+q) 0:=by
    rw[show b+(q+1)-1=b+q by omega,rJ2,rJ2,List.getElem?_set];by_cases h:i=b+q
    ·omega
    ·rw[if_neg h]
   have g2:(y.set i (y.getD (b+q) 0)).getD i 0=y.getD (b+q) 0:=by rw[bI 0 (show i<(y.set i (y.getD (b+q) 0)).length by simp;omega)];simp
   rw[g1,wE 0 (show i<(y.set i (y.getD (b+q) 0)).length by simp;omega),List.drop_set_of_lt (by omega),List.take_set_of_le (aK2 i),g2,show b+(q+1)=b+q+1 by omega];simp
theorem xB2 (y:List Int) (hN:y.length≤1000000):∀(k q:Nat),y.length-q=k→1≤q→q≤y.length →
  jA.l2 q y=some (y.take q++dd (y.getD (q-1) 0) (y.drop q),()):=by
 intro k
 induction k with
 | zero=>
  intro q hk hq hq2;have e:q=y.length:=by omega
  subst e;rw[jA.l2_eq];simp(disch:=omega)only[ss,jA.l5_eq,fL2,wL2,dd,cK2]
 | succ k ih=>
  intro q hk hq hq2;have hlt:q<y.length:=by omega
  have w1:w6 ((q:Int)-1)=((q-1:Nat):Int):=uS (by omega) (by omega);rw[jA.l2_eq,qC 0 hlt];simp(disch:=omega)only[ss,w1,dd];by_cases hc:y.getD q 0=y.getD (q-1) 0
  ·simp(disch:=omega)only[ss,if_pos hc];have:=jE2 y.length hN q _ q 1 y rfl rfl (aK2 _) (by omega) (by omega);rw[show q+1-1=q by omega]at this;exact this
  ·simp(disch:=omega)only[ss,if_neg hc];have:=ih (q+1) (by omega) (by omega) (by omega);rw[show q+1-1=q by omega,wE 0 hlt]at this;refine Eq.trans this ?_;simp
theorem mT (y:List Int) (hN:y.length≤1000000):jA.f y=some (dds y,()):=by
 rw[jA.f_eq]
 cases y with
 | nil=>simp(disch:=omega)only[ss,jK2,fK2,jA.l1_eq];rfl
 | cons a l=>
  by_cases h:l=[]
  ·subst h;simp(disch:=omega)only[ss,yJ2,jK2,jA.l1_eq];rfl
  ·have h1:0<l.length:=hM2.2 h;have:=xB2 (a::l) hN _ 1 rfl (aK2 _) (by simp);simp(disch:=omega)only[ss,yJ2];refine Eq.trans this ?_;rfl
abbrev Dy :=Int×Int×Unit
theorem cZ1 (a b:Dy):(decide (a.1=b.1)&&decide (a.2.1=b.2.1))=decide (a=b):=by obtain⟨a1,a2,⟨⟩⟩:=a;obtain⟨b1,b2,⟨⟩⟩:=b;rw[Bool.eq_iff_iff];simp
def dyLt (a b:Dy):Prop:=a.1<b.1∨a.1=b.1∧a.2.1<b.2.1
def ddT :Dy→List Dy→List Dy
 | _,[]=>[]
 | p,a::l=>if a=p then ddT a l else a::ddT a l
def ddsT :List Dy→List Dy
 | []=>[]
 | a::l=>a::ddT a l
theorem mZ1 (N:Nat) (hN:N≤1000000) (b:Nat):∀(k i q:Nat) (y:List Dy),y.length=N→N-(b+q)=k→1≤q→i<b+q→b+q≤N →
  dA.l3 i b q y=some (y.take i++ddT (y.getD (b+q-1) ((0,0,()):Int×Int×Unit)) (y.drop (b+q)),()):=by
 intro k
 induction k with
 | zero=>
  intro i q y hy hk hq hi hb;have e:b+q=y.length:=by omega
  have e2:(y.take i++List.replicate (y.length-i) ((0,0,()):Int×Int×Unit)).take i=y.take i:=by rw[qM2 (by rw[dK2];omega),List.take_take,Nat.min_self]
  rw[dA.l3_eq,e,fL2];simp(disch:=omega)only[ss,pJ2,dK2,List.length_replicate,e2,dA.l4_eq,ddT,cK2]
 | succ k ih=>
  intro i q y hy hk hq hi hb;have hlt:b+q<y.length:=by omega
  have w1:w6 ((q:Int)-1)=((q-1:Nat):Int):=uS (by omega) (by omega);have w2:((b:Int)+((q-1:Nat):Int)).toNat=b+q-1:=by omega
  have e1:((q:Int)<((y.length-b:Nat):Int)):=by omega
  rw[dA.l3_eq,qC ((0,0,()):Int×Int×Unit) hlt];simp(disch:=omega)only[ss,w1,w2,e1,sK2,ddT];by_cases hc:y.getD (b+q) ((0,0,()):Int×Int×Unit)=y.getD (b+q-1) ((0,0,()):Int×Int×Unit)
  ·have hc1:=decide_eq_true hc;simp(disch:=omega)only[ss,cZ1,hc1,if_pos hc];have:=ih i (q+1) y hy (by omega) (by omega) (by omega) (by omega);rw[show b+(q+1)-1=b+q by omega,show b+(q+1)=b+q+1 by omega]at this;exact this
  ·have hc1:=decide_eq_false hc;simp(disch:=omega)only[ss,cZ1,hc1,if_neg hc];have:=ih (i+1) (q+1) (y.set i (y.getD (b+q) ((0,0,()):Int×Int×Unit))) (by simp[hy]) (by omega) (by omega) (by omega) (by omega);refine this.trans ?_;have g1:(y.set i (y.getD (b+q) ((0,0,()):Int×Int×Unit))).getD (b+(q+1)-1) ((0,0,()):Int×Int×Unit)=y.getD (b+q) ((0,0,()):Int×Int×Unit):=by
    rw[show b+(q+1)-1=b+q by omega,rJ2,rJ2,List.getElem?_set];by_cases h:i=b+q
    ·omega
    ·rw[if_neg h]
   have g2:(y.set i (y.getD (b+q) ((0,0,()):Int×Int×Unit))).getD i ((0,0,()):Int×Int×Unit)=y.getD (b+q) ((0,0,()):Int×Int×Unit):=by rw[bI ((0,0,()):Int×Int×Unit) (show i<(y.set i (y.getD (b+q) ((0,0,()):Int×Int×Unit))).length by simp;omega)];simp
   rw[g1,wE ((0,0,()):Int×Int×Unit) (show i<(y.set i (y.getD (b+q) ((0,0,()):Int×Int×Unit))).length by simp;omega),List.drop_set_of_lt (by omega),List.take_set_of_le (aK2 i),g2,show b+(q+1)=b+q+1 by omega];simp
theorem rX1 (y:List Dy) (hN:y.length≤1000000):∀(k q:Nat),y.length-q=k→1≤q→q≤y.length →
  dA.l2 q y=some (y.take q++ddT (y.getD (q-1) ((0,0,()):Int×Int×Unit)) (y.drop q),()):=by
 intro k
 induction k with
 | zero=>
  intro q hk hq hq2;have e:q=y.length:=by omega
  subst e;rw[dA.l2_eq];simp(disch:=omega)only[ss,dA.l5_eq,fL2,wL2,ddT,cK2]
 | succ k ih=>
  intro q hk hq hq2;have hlt:q<y.length:=by omega
  have w1:w6 ((q:Int)-1)=((q-1:Nat):Int):=uS (by omega) (by omega);rw[dA.l2_eq,qC ((0,0,()):Int×Int×Unit) hlt];simp(disch:=omega)only[ss,w1,ddT];by_cases hc:y.getD q ((0,0,()):Int×Int×Unit)=y.getD (q-1) ((0,0,()):Int×Int×Unit)
  ·have hc1:=decide_eq_true hc;simp(disch:=omega)only[ss,cZ1,hc1,if_pos hc];have:=mZ1 y.length hN q _ q 1 y rfl rfl (aK2 _) (by omega) (by omega);rw[show q+1-1=q by omega]at this;exact this
  ·have hc1:=decide_eq_false hc;simp(disch:=omega)only[ss,cZ1,hc1,if_neg hc];have:=ih (q+1) (by omega) (by omega) (by omega);rw[show q+1-1=q by omega,wE ((0,0,()):Int×Int×Unit) hlt]at this;refine Eq.trans this ?_;simp
theorem vD1 (y:List Dy) (hN:y.length≤1000000):dA.f y=some (ddsT y,()):=by
 rw[dA.f_eq]
 cases y with
 | nil=>simp(disch:=omega)only[ss,jK2,fK2,dA.l1_eq];rfl
 | cons a l=>
  by_cases h:l=[]
  ·subst h;simp(disch:=omega)only[ss,yJ2,jK2,dA.l1_eq];rfl
  ·have h1:0<l.length:=hM2.2 h;have:=rX1 (a::l) hN _ 1 rfl (aK2 _) (by simp);simp(disch:=omega)only[ss,yJ2];refine Eq.trans this ?_;rfl
theorem gS1 (c:UInt8) (s:List UInt8) (hs:s.length≤1000000):∀(k i dF:Nat) (y:List ByteArray),s.length+1-i=k→dF≤i→i≤s.length→y.length≤i→c∉(s.drop dF).take (i-dF) →
  tB.l1 (mkS s) (c.toNat:Int) dF i y=some (y++(segs c (s.drop dF)).map mkS,()):=by
 have hlim:pC=17179869184:=rfl;intro k
 induction k with
 | zero=>intro i dF y hk hf hi;omega
 | succ k ih=>
  intro i dF y hk hf hi hy hn;have hex:(mkS s).extract dF i=mkS ((s.drop dF).take (i-dF)):=fI (by rw[hW1,B_mk,B_mk]);rw[tB.l1_eq];by_cases hlt:i<s.length
  ·have hbt:bt (mkS s) (i:Int)=((s.getD i 0).toNat:Int):=cI (mkS s) i;have hsp:s.drop dF=(s.drop dF).take (i-dF)++s.getD i 0::s.drop (i+1):=by
    conv=>lhs;rw[←eL2 (i-dF) (s.drop dF)]
    rw[nM2,show dF+(i-dF)=i by omega,qC 0 hlt]
   by_cases hc:((s.getD i 0).toNat:Int)=(c.toNat:Int)
   ·have hc':=(xZ1 _ _).1 hc;simp(disch:=omega)only[ss,szS,hbt,tB.l2_eq,hex,sJ2,hlim];refine(ih (i+1) (i+1) (y++[mkS ((s.drop dF).take (i-dF))]) (by omega) (by omega) (by omega) (by simp;omega) (by simp)).trans ?_;have hseg:segs c (s.drop dF)=(s.drop dF).take (i-dF)::segs c (s.drop (i+1)):=by
     conv=>lhs;rw[hsp,hc']
     exact qJ hn
    rw[hseg];simp
   ·have hc':¬s.getD i 0=c:=fun q=>hc (by rw[q])
    simp(disch:=omega)only[ss,szS,hbt,tB.l2_eq];refine ih (i+1) dF y (by omega) (by omega) (by omega) (by omega) ?_;rw[show i+1-dF=(i-dF)+1 by omega,wE 0 (show i-dF<(s.drop dF).length by rw[sK2];omega)];have:(s.drop dF).getD (i-dF) 0=s.getD i 0:=by
     rw[bI 0 (show i-dF<(s.drop dF).length by rw[sK2];omega),bI 0 hlt,List.getElem_drop]
     congr 1
     omega
    rw[this];intro q;rcases gK2.1 q with q | q
    ·exact hn q
    ·rw[vK2]at q;exact hc' q.symm
  ·have e:i=s.length:=by omega
   subst e;have ht:(s.drop dF).take (s.length-dF)=s.drop dF:=aM2 (by rw[sK2];omega);rw[ht]at hn hex;simp(disch:=omega)only[ss,szS,tB.l2_eq,hex,sJ2,hlim];rw[tB.l1_eq];simp(disch:=omega)only[ss,szS];rw[nJ hn];rfl
theorem cL (c:UInt8) (s:List UInt8) (hs:s.length≤1000000):tB.f (mkS s) (c.toNat:Int)=some ((segs c s).map mkS,()):=by rw[tB.f_eq];have:=gS1 c s hs _ 0 0 [] rfl (aK2 _) (xJ2 _) (aK2 _) (by simp);rw[fK2]at this;simpa using this
theorem xM (c:UInt8) (l:List UInt8):(segs c l).length≤l.length+1 ∧ ∀s∈segs c l,s.length≤l.length:=by
 suffices h:∀(k:Nat) (l:List UInt8),l.length=k→(segs c l).length≤l.length+1 ∧ ∀s∈segs c l,s.length≤l.length from h _ l rfl
 intro k
 induction k using Nat.strongRecOn with
 | ind k ih=>
  intro l hl;rcases mI (c:=c) (l:=l)with h | ⟨a,b,h,h2⟩
  ·rw[nJ h];refine⟨by simp,fun s hs=>?_⟩;rw[vK2]at hs;rw[hs];exact aK2 _
  ·subst h;rw[qJ h2];simp only[pJ2,yJ2]at hl ⊢;obtain⟨h3,h4⟩:=ih b.length (by omega) b rfl;refine⟨by omega,fun s hs=>?_⟩;rcases uJ2.1 hs with rfl | hs
   ·omega
   ·have:=h4 s hs;omega
theorem lY (c:UInt8) (l:List UInt8):segs c l≠[]:=by
 rcases mI (c:=c) (l:=l)with h | ⟨a,b,h,h2⟩
 ·rw[nJ h];simp
 ·subst h;rw[qJ h2];simp
def posF :Int→List (List UInt8)→List UInt8→Int
 | _,[],_=> -1
 | i,w::l,v=>if w=v then i else posF (i+1) l v
theorem mP :∀(l:List (List UInt8)) (v:List UInt8) (i:Int),0≤i→(0≤posF i l v↔v∈l)∧posF i l v≤i+l.length ∧ -1≤posF i l v∧(posF i l v<0→posF i l v = -1)
 | [],v,i,h=>by simp[posF];omega
 | w::l,v,i,h=>by
  unfold posF;by_cases hw:w=v
  ·rw[if_pos hw];refine⟨⟨fun _=>by rw[hw];exact zJ2,fun _=>h⟩,by simp;omega,by omega,by omega⟩
  ·rw[if_neg hw];obtain⟨h1,h2,h3,h4⟩:=mP l v (i+1) (by omega);refine⟨h1.trans ⟨wJ2 _,fun q=>(uJ2.1 q).resolve_left fun q=>hw q.symm⟩,by simp;omega,h3,h4⟩
theorem lH1 :∀(l:List (List UInt8)) (v:List UInt8) (i:Int),posF (i+1) l v=if v∈l then posF i l v+1 else -1
 | [],v,i=>by simp[posF]
 | w::l,v,i=>by
  unfold posF;by_cases hw:w=v
  ·rw[if_pos hw,if_pos hw,if_pos (by rw[hw];exact zJ2)]
  ·rw[if_neg hw,if_neg hw,lH1 l v (i+1)];by_cases hm:v∈l
   ·rw[if_pos hm,if_pos (wJ2 _ hm)]
   ·rw[if_neg hm,if_neg fun q=>hm ((uJ2.1 q).resolve_left fun q=>hw q.symm)]
theorem gm (l:List (List UInt8)) (i:Nat) (hi:i<l.length):(l.map mkS).getD i ByteArray.empty=mkS (l.getD i []):=by rw[bI ByteArray.empty (by simpa using hi),bI [] hi,List.getElem_map]
theorem fK (l:List (List UInt8)) (v:List UInt8) (hl:l.length≤1000000):rA.f (l.map mkS) (mkS v)=some (posF 0 l v,()):=by
 have key:∀(k i:Nat),l.length-i=k→i≤l.length→rA.l1 (l.map mkS) (mkS v) l.length i=some (posF i (l.drop i) v,()):=by
  intro k
  induction k with
  | zero=>
   intro i hk hi;have e:i=l.length:=by omega
   subst e;rw[rA.l1_eq,fL2];simp(disch:=omega)only[ss];rfl
  | succ k ih=>
   intro i hk hi;have hlt:i<l.length:=by omega
   have hg:=gm l i hlt;have hml:(l.map mkS).length=l.length:=vJ2 ..;rw[rA.l1_eq,qC [] hlt];simp only[kE];simp(disch:=omega)only[ss,hml,hg,posF];by_cases h:l.getD i []=v
   ·rw[if_pos h,dp (by rw[h]),cond_true]
   ·rw[if_neg h,dn fun q=>h (uJ q.symm),cond_false];exact ih (i+1) (by omega) (by omega)
 rw[rA.f_eq];have:=key _ 0 rfl (xJ2 _);rw[oK2,fK2]at this;rw[vJ2];exact this
theorem xJ (l:List (List UInt8)) (v:List UInt8) (hl:l.length≤1000000):aC.f (l.map mkS) (mkS v)=some (decide (v∈l),()):=by rw[aC.f_eq,fK l v hl];simp only[qJ2];rw[show decide (posF 0 l v≥0)=decide (v∈l)from decide_eq_decide.2 (mP l v 0 (by omega)).1]
theorem bR (l:List (List UInt8)) (v:List UInt8) (hl:l.length≤1000000):fC.f (l.map mkS) (mkS v)=some (if v=[]then -1 else posF 0 l v,()):=by
 have key:∀(k i:Nat),l.length-i=k→i≤l.length→fC.l1 (l.map mkS) (mkS v) i=some (if v=[]then -1 else posF i (l.drop i) v,()):=by
  intro k
  induction k with
  | zero=>
   intro i hk hi;have e:i=l.length:=by omega
   subst e;have hml:(l.map mkS).length=l.length:=vJ2 ..;rw[fC.l1_eq,fL2];simp(disch:=omega)only[ss,hml];by_cases hv:v=[]
   ·rw[if_pos hv]
   ·rw[if_neg hv];rfl
  | succ k ih=>
   intro i hk hi;have hlt:i<l.length:=by omega
   have hg:=gm l i hlt;have hml:(l.map mkS).length=l.length:=vJ2 ..;have next:=ih (i+1) (by omega) (by omega)
   rw[fC.l1_eq,qC [] hlt];simp only[kE];simp(disch:=omega)only[ss,hml,hg];have hmt:(⟨#[]⟩:ByteArray)=mkS []:=rfl;rw[hmt];by_cases hv:v=[]
   ·rw[if_pos hv]at next ⊢
    have e2:decide (mkS v=mkS [])=true:=dp (by rw[hv]);rw[e2];by_cases h:mkS (l.getD i [])=mkS v
    ·rw[dp h,cond_true,fC.l2_eq];simp(disch:=omega)only[ss];exact next
    ·rw[dn h,cond_false,fC.l2_eq];simp(disch:=omega)only[ss];exact next
   ·rw[if_neg hv]at next ⊢
    have e2:decide (mkS v=mkS [])=false:=dn fun q=>hv (uJ q)
    rw[e2];unfold posF;by_cases h:l.getD i []=v
    ·rw[if_pos h,dp (by rw[h]),cond_true,fC.l2_eq];simp(disch:=omega)only[ss]
    ·rw[if_neg h,dn fun q=>h (uJ q),cond_false,fC.l2_eq];simp(disch:=omega)only[ss];exact next
 rw[fC.f_eq];have:=key _ 0 rfl (xJ2 _);rw[oK2,fK2]at this;exact this
theorem zJ {s:List UInt8} {n m:Int} (h:isN s n) (g:isN s m):n=m:=wW1 (h.1.symm.trans g.1)
theorem pS1 :∀p:List (List UInt8),(∃ns,All2 isN p ns) ∨ ∃s∈p,∀n,¬isN s n
 | []=>.inl ⟨[],trivial⟩
 | s::p=>by
  by_cases h:∃n,isN s n
  ·obtain⟨n,hn⟩:=h;rcases pS1 p with⟨ns,h2⟩ | ⟨t,ht,h2⟩
   ·exact .inl ⟨n::ns,hn,h2⟩
   ·exact .inr ⟨t,wJ2 _ ht,h2⟩
  ·exact .inr ⟨s,zJ2,fun n hn=>h ⟨n,hn⟩⟩
theorem jN1 {y:List Int} (hy:y.length≤1000000):∃r,xC.f y=some (r,())∧r.length=y.length∧lM (dds r) ∧ ∀x,x∈dds r↔x∈y:=by
 have hs:xC.f y=some (y.mergeSort fun x y=>decide (x≤y),()):=by rw[xC.f_sem];show(bif decide (List.length y≤pC)then some (List.mergeSort (α:=Int) y (fun x y=>decide (x≤y)),())else none)=_;rw[dp (by simp only[pC];omega),cond_true]
 have hp:(y.mergeSort fun x y=>decide (x≤y)).Perm y:=List.mergeSort_perm y _
 have hso:(y.mergeSort fun x y=>decide (x≤y)).Pairwise (· ≤ ·):=by have:=List.pairwise_mergeSort (le:=fun x y:Int=>decide (x≤y)) (fun a b c h1 h2=>by simp at *;omega) (fun a b=>by simp;omega) y;exact this.imp fun h=>by simpa using h
 generalize y.mergeSort (fun x y=>decide (x≤y))=r at hs hp hso;refine⟨r,hs,hp.length_eq,?_,fun x=>?_⟩
 ·cases r with
  | nil=>exact List.Pairwise.nil
  | cons a r=>exact sC1 r a hso
 ·have e:x∈dds r↔x∈r:=by
   cases r with
   | nil=>exact Iff.rfl
   | cons a r=>
    show x∈a::dd a r↔_;rw[uJ2,uJ2];have:=nQ1 r a x;constructor
    ·rintro(h | h)
     ·exact .inl h
     ·rcases this.1 (.inl h)with h | h
      ·exact .inr h
      ·exact .inl h
    ·rintro(h | h)
     ·exact .inl h
     ·rcases this.2 (.inl h)with h | h
      ·exact .inr h
      ·exact .inl h
  rw[e,hp.mem_iff]
noncomputable def xI1 (y:List Int):Option (List Int×Bool×Unit):=bif decide ((y.length:Int)>60)then(some ([],false,()))else((xC.f y).bind fun t3=>(jA.f t3.1).bind fun t4=>some (t4.1,true,()))
theorem fD2 (p:List (List UInt8)) (hp:p.length≤100000) (hpl:∀s∈p,s.length≤100000):∀(k i:Nat) (y:List Int),p.length-i=k→i≤p.length→y.length≤i →
  (∀ns,All2 isN (p.drop i) ns→eC.l1 (p.map mkS) p.length i y=xI1 (y++ns))∧((∃s∈p.drop i,∀n,¬isN s n)→eC.l1 (p.map mkS) p.length i y=some ([],false,())):=by
 have hlim:pC=17179869184:=rfl;have hml:(p.map mkS).length=p.length:=vJ2 ..;intro k
 induction k with
 | zero=>
  intro i y hk hi hy;have e:i=p.length:=by omega
  subst e;rw[eC.l1_eq,fL2];simp(disch:=omega)only[ss,hml];refine⟨fun ns hns=>?_,fun⟨s,hs,_⟩=>by cases hs⟩
  cases ns with
  | nil=>rw[cK2];rfl
  | cons _ _=>exact hns.elim
 | succ k ih=>
  intro i y hk hi hy;have hlt:i<p.length:=by omega
  have hg:=gm p i hlt;rw[eC.l1_eq,qC [] hlt];rcases qK (p.getD i []) (by have:=hpl _ (yC [] hlt);omega)with⟨n,hn,hf⟩ | ⟨hn,n,hf⟩
  ·simp(disch:=omega)only[ss,hml,hg,hf,sJ2,hlim];obtain⟨h1,h2⟩:=ih (i+1) (y++[n]) (by omega) (by omega) (by simp;omega);refine⟨fun ns hns=>?_,fun⟨s,hs,hs2⟩=>?_⟩
   ·cases ns with
    | nil=>exact hns.elim
    | cons m ns=>
     have e:=zJ hns.1 hn;subst e;refine(h1 ns hns.2).trans ?_;rw[eK2];rfl
   ·refine h2 ?_;rcases uJ2.1 hs with rfl | hs
    ·exact absurd hn (hs2 n)
    ·exact⟨s,hs,hs2⟩
  ·simp(disch:=omega)only[ss,hml,hg,hf];refine⟨fun ns hns=>?_,fun _=>trivial⟩
   cases ns with
   | nil=>exact hns.elim
   | cons m ns=>exact absurd hns.1 (hn m)
theorem dW1 (p:List (List UInt8)) (hp:p.length≤100000) (hpl:∀s∈p,s.length≤100000):∀(k i:Nat) (y:List Int),p.length-i=k→i≤p.length→y.length≤i →
  (∀ns,All2 isN (p.drop i) ns→qB.l1 (p.map mkS) i y=((oA.f (y++ns)).bind fun t3=>some (t3.1,true,())))∧((∃s∈p.drop i,∀n,¬isN s n)→qB.l1 (p.map mkS) i y=some ([],false,())):=by
 have hlim:pC=17179869184:=rfl;have hml:(p.map mkS).length=p.length:=vJ2 ..;intro k
 induction k with
 | zero=>
  intro i y hk hi hy;have e:i=p.length:=by omega
  subst e;rw[qB.l1_eq,fL2];simp(disch:=omega)only[ss,hml];refine⟨fun ns hns=>?_,fun⟨s,hs,_⟩=>by cases hs⟩
  cases ns with
  | nil=>rw[cK2]
  | cons _ _=>exact hns.elim
 | succ k ih=>
  intro i y hk hi hy;have hlt:i<p.length:=by omega
  have hg:=gm p i hlt;rw[qB.l1_eq,qC [] hlt];rcases rJ (p.getD i []) (by have:=hpl _ (yC [] hlt);omega)with⟨n,hn,hf⟩ | ⟨hn,n,hf⟩
  ·simp(disch:=omega)only[ss,hml,hg,hf,sJ2,hlim];obtain⟨h1,h2⟩:=ih (i+1) (y++[n]) (by omega) (by omega) (by simp;omega);refine⟨fun ns hns=>?_,fun⟨s,hs,hs2⟩=>?_⟩
   ·cases ns with
    | nil=>exact hns.elim
    | cons m ns=>
     have e:=zJ hns.1 hn;subst e;refine(h1 ns hns.2).trans ?_;rw[eK2];rfl
   ·refine h2 ?_;rcases uJ2.1 hs with rfl | hs
    ·exact absurd hn (hs2 n)
    ·exact⟨s,hs,hs2⟩
  ·simp(disch:=omega)only[ss,hml,hg,hf];refine⟨fun ns hns=>?_,fun _=>trivial⟩
   cases ns with
   | nil=>exact hns.elim
   | cons m ns=>exact absurd hns.1 (hn m)
theorem dR {α β:Type} {R:α→β→Prop}:∀{l:List α} {m:List β},All2 R l m→l.length=m.length
 | [],[],_=>rfl
 | _::l,_::m,h=>by simp[dR h.2]
 | [],_::_,h=>h.elim
 | _::_,[],h=>h.elim
def isL (v:List UInt8) (r:List Int):Prop:=(lM r∧r.length≤60) ∧ ∃ns,All2 isN (segs 44 v) ns∧ns.length≤60 ∧ ∀x,x∈r↔x∈ns
theorem pA2 :∀(l:List Int) (p:Int),(dd p l).length≤l.length
 | [],_=>aK2 _
 | a::l,p=>by unfold dd;have:=pA2 l a;split <;> simp <;> omega
theorem rD2 (l:List Int):(dds l).length≤l.length:=by
 cases l with
 | nil=>exact aK2 _
 | cons a l=>show(a::dd a l).length≤_;simp[pA2]
theorem iI (v:List UInt8) (hv:v.length≤50000):
  (∃r,isL v r∧eC.f (mkS v)=some (r,true,())∧qB.f (mkS v)=some (r,true,())) ∨
  ((∀r,¬isL v r)∧eC.f (mkS v)=some ([],false,())∧qB.f (mkS v)=some ([],false,())):=by
 have hsl:=xM 44 v;have hS:qD.f (mkS v) ⟨#[44]⟩=some ((segs 44 v).map mkS,()):=pK (c:=44) v (by omega);have hV:tB.f (mkS v) 44=some ((segs 44 v).map mkS,()):=cL 44 v (by omega);have hml:((segs 44 v).map mkS).length=(segs 44 v).length:=vJ2 ..;have h1:=fD2 (segs 44 v) (by omega) (fun s hs=>by have:=hsl.2 s hs;omega) _ 0 [] rfl (xJ2 _) (aK2 _);have h2:=dW1 (segs 44 v) (by omega) (fun s hs=>by have:=hsl.2 s hs;omega) _ 0 [] rfl (xJ2 _) (aK2 _);rw[oK2,fK2]at h1 h2;have hf1:eC.f (mkS v)=eC.l1 ((segs 44 v).map mkS) (segs 44 v).length 0 []:=by rw[eC.f_eq,hS,←hml];rfl
 have hf2:qB.f (mkS v)=bif decide (((segs 44 v).length:Int)>60)then some ([],false,())else qB.l1 ((segs 44 v).map mkS) 0 []:=by rw[qB.f_eq,hV,←hml];rfl
 rcases pS1 (segs 44 v)with⟨ns,hns⟩ | hbad
 ·have hlen:=dR hns;have e1:=h1.1 ns hns;have e2:=h2.1 ns hns;rw[xK2]at e1 e2;by_cases h60:(ns.length:Int)>60
  ·refine .inr ⟨fun r hr=>?_,?_,?_⟩
   ·obtain⟨_,ms,h3,h4,_⟩:=hr;have:=dR h3;omega
   ·rw[hf1,e1];unfold xI1;simp(disch:=omega)only[ss]
   ·rw[hf2];simp(disch:=omega)only[ss]
  ·obtain⟨r,h3,h4,h5,h6⟩:=jN1 (y:=ns) (by omega);obtain⟨q,h7,h8,h9⟩:=oY ns (by omega);have e:q=dds r:=wS h8 h5 fun x=>(h9 x).trans (h6 x).symm
   subst e;refine .inl ⟨dds r,⟨⟨h5,by have:=rD2 r;omega⟩,ns,hns,by omega,h6⟩,?_,?_⟩
   ·rw[hf1,e1];unfold xI1;simp(disch:=omega)only[ss,h3,mT r (by omega)]
   ·rw[hf2,e2];simp(disch:=omega)only[ss,h7]
 ·refine .inr ⟨fun r hr=>?_,?_,?_⟩
  ·obtain⟨_,ms,h3,_,_⟩:=hr;obtain⟨s,hs,hs2⟩:=hbad;have:∀(p:List (List UInt8)) (ms:List Int),All2 isN p ms→s∈p → ∃n,isN s n:=by
    intro p
    induction p with
    | nil=>intro ms _ h;cases h
    | cons t p ih=>
     intro ms h hm
     cases ms with
     | nil=>exact h.elim
     | cons m ms=>
      rcases uJ2.1 hm with rfl | hm
      ·exact⟨m,h.1⟩
      ·exact ih ms h.2 hm
   obtain⟨n,hn⟩:=this _ ms h3 hs;exact hs2 n hn
  ·rw[hf1,h1.2 hbad]
  ·rw[hf2,h2.2 hbad];cases decide (((segs 44 v).length:Int)>60) <;> rfl
def wd :List (List UInt8):=[[77,79],[84,85],[87,69],[84,72],[70,82],[83,65],[83,85]]
theorem yI :xF.f=some (wd.map mkS,()):=by rw[xF.f_eq];rfl
theorem cR :jF.f=some (wd.map mkS,()):=by rw[jF.f_eq];rfl
theorem iE1 :∀(l:List (List UInt8)) (v:List UInt8) (i:Int),0≤i→posF i l v<i+l.length
 | [],v,i,h=>by simp[posF];omega
 | w::l,v,i,h=>by
  unfold posF;split
  ·simp;omega
  ·have:=iE1 l v (i+1) (by omega);simp;omega
def isD (s:List UInt8) (n w:Int):Prop:=2≤s.length∧w=posF 0 wd (s.drop (s.length-2))∧0≤w∧((s.take (s.length-2)=[]∧n=0)∨(s.take (s.length-2)≠[]∧isN (s.take (s.length-2)) n∧n≠0))
theorem sA2 {s:List UInt8} {n w:Int} (h:isD s n w):0≤w∧w≤6 ∧ -999999999≤n∧n≤999999999:=by
 obtain⟨_,h2,h3,h4⟩:=h;have h5:=iE1 wd (s.drop (s.length-2)) 0 (by omega);have h6:(wd.length:Int)=7:=rfl;refine⟨h3,by omega,?_⟩;rcases h4 with⟨_,rfl⟩ | ⟨_,h7,_⟩
 ·omega
 ·exact h7.2
theorem fR {s:List UInt8} {n w m v:Int} (h:isD s n w) (g:isD s m v):n=m∧w=v:=by
 obtain⟨_,h2,_,h4⟩:=h;obtain⟨_,g2,_,g4⟩:=g;refine⟨?_,by rw[h2,g2]⟩;rcases h4 with⟨h5,h6⟩ | ⟨h5,h6,_⟩ <;> rcases g4 with⟨g5,g6⟩ | ⟨g5,g6,_⟩
 ·rw[h6,g6]
 ·exact absurd h5 g5
 ·exact absurd g5 h5
 ·exact zJ h6 g6
theorem tW1 (s:List UInt8) (hs:s.length≤100000):
  (∃n w,isD s n w∧oO.f (mkS s)=some ((n,w,()),true,()))∨((∀n w,¬isD s n w) ∧ ∃d,oO.f (mkS s)=some (d,false,())):=by
 rw[oO.f_eq];by_cases c1:(s.length:Int)<2
 ·refine .inr ⟨fun n w h=>?_,(0,0,()),?_⟩
  ·have:=h.1;omega
  ·simp(disch:=omega)only[ss,szS]
 ·have w1:w6 ((s.length:Int)-2)=((s.length-2:Nat):Int):=by rw[wr (by omega) (by omega)];omega
  have x1:(mkS s).extract (s.length-2) s.length=mkS (s.drop (s.length-2)):=fI (by rw[←szS s,iL,B_mk,B_mk]);have x2:(mkS s).extract 0 (s.length-2)=mkS (s.take (s.length-2)):=fI (by rw[oN,B_mk,B_mk]);have hI:=fK wd (s.drop (s.length-2)) (by decide);have hm:(⟨#[]⟩:ByteArray)=mkS []:=rfl;simp(disch:=omega)only[ss,szS,w1,x1,x2,yI,hI,kE,hm];have hp:=(mP wd (s.drop (s.length-2)) 0 (by omega)).2;by_cases c2:s.take (s.length-2)=[]
  ·have e:decide (mkS (s.take (s.length-2))=mkS [])=true:=dp (by rw[c2]);rw[e,cond_true];by_cases c3:posF 0 wd (s.drop (s.length-2))≥0
   ·rw[dp c3];exact .inl ⟨0,_,⟨by omega,rfl,c3,.inl ⟨c2,rfl⟩⟩,rfl⟩
   ·rw[dn c3];refine .inr ⟨fun n w h=>?_,_,rfl⟩;have h2:=h.2.1;have h3:=h.2.2.1;omega
  ·have e:decide (mkS (s.take (s.length-2))=mkS [])=false:=dn fun q=>c2 (uJ q)
   rw[e,cond_false];rcases qK (s.take (s.length-2)) (by rw[dK2];omega)with⟨n,hn,hf⟩ | ⟨hn,n,hf⟩
   ·rw[hf];simp only[qJ2,cond_true];by_cases c4:n=0
    ·simp(disch:=omega)only[ss];refine .inr ⟨fun m w h=>?_,_,rfl⟩;rcases h.2.2.2 with⟨h5,_⟩ | ⟨_,h6,h7⟩
     ·exact c2 h5
     ·exact h7 ((zJ h6 hn).trans c4)
    ·simp(disch:=omega)only[ss];by_cases c3:posF 0 wd (s.drop (s.length-2))≥0
     ·rw[dp c3];exact .inl ⟨n,_,⟨by omega,rfl,c3,.inr ⟨c2,hn,c4⟩⟩,rfl⟩
     ·rw[dn c3];refine .inr ⟨fun m w h=>?_,_,rfl⟩;have h2:=h.2.1;have h3:=h.2.2.1;omega
   ·rw[hf];simp only[qJ2,cond_false];refine .inr ⟨fun m w h=>?_,_,rfl⟩;rcases h.2.2.2 with⟨h5,_⟩ | ⟨_,h6,_⟩
    ·exact c2 h5
    ·exact hn m h6
theorem mJ2 (x4:List ByteArray) (x6 x8 x9:Int):fA.l4 x4 x6 x8 x9=fA.l4a x4 x6 x8 x9 []:=by rw[fA.l4_eq,fA.l4a_eq]
theorem tC2 (x4:List ByteArray) (x6 x8 x9:Int) (b:Bool):fA.l3 x4 x6 x8 x9 b=fA.l3a x4 x6 x8 x9 b []:=by rw[fA.l3_eq,fA.l3a_eq,mJ2]
theorem jJ2 (x4:List ByteArray) (x6 x7 x8 x9:Int) (b:Bool):fA.l2 x4 x6 x7 x8 x9 b=fA.l2a x4 x6 x7 x8 x9 b []:=by rw[fA.l2_eq,fA.l2a_eq,tC2,tC2,tC2]
theorem bI2 (x4:List ByteArray) (x6:Int):fA.l1 x4 x6=fA.l1a x4 x6 []:=by rw[fA.l1_eq,fA.l1a_eq];simp only[jJ2]
theorem zU1 (p:List (List UInt8)) (hp:p.length≤100000) (i:Nat) (hi:i<p.length) (hpl:(p.getD i []).length≤100000) (y:List Int) (hy:y.length≤i):
  (∀n w,isD (p.getD i []) n w→fA.l1a (p.map mkS) i y=fA.l1a (p.map mkS) (i+1:Nat) (y++[7*n+w])) ∧
  ((∀n w,¬isD (p.getD i []) n w)→fA.l1a (p.map mkS) i y=some ([],false,())):=by
 have hlim:pC=17179869184:=rfl;have hml:(p.map mkS).length=p.length:=vJ2 ..;have hg:=gm p i hi;generalize hs:p.getD i []=s at hg hpl
 have key:fA.l1a (p.map mkS) i y=bif decide ((s.length:Int)<2)then(some ([],false,()))else
   (bif decide (((s.length-2:Nat):Int)>0)then((hE.f (mkS (s.take (s.length-2)))).bind fun t8=>fA.l2a (p.map mkS) i ((s.length-2:Nat):Int) (if s.drop (s.length-2)=[]then -1 else posF 0 wd (s.drop (s.length-2))) t8.1 t8.2.1 y)
    else fA.l2a (p.map mkS) i ((s.length-2:Nat):Int) (if s.drop (s.length-2)=[]then -1 else posF 0 wd (s.drop (s.length-2))) 0 true y):=by
  rw[fA.l1a_eq];by_cases c1:(s.length:Int)<2
  ·simp(disch:=omega)only[ss,hml,hg,szS]
  ·have w1:w6 ((s.length:Int)-2)=((s.length-2:Nat):Int):=by rw[wr (by omega) (by omega)];omega
   have x1:(mkS s).extract (s.length-2) s.length=mkS (s.drop (s.length-2)):=fI (by rw[←szS s,iL,B_mk,B_mk]);have x2:(mkS s).extract 0 (s.length-2)=mkS (s.take (s.length-2)):=fI (by rw[oN,B_mk,B_mk]);have hW:=bR wd (s.drop (s.length-2)) (by decide);simp(disch:=omega)only[ss,hml,hg,szS,w1,x1,cR,hW,x2]
 rw[key];by_cases c1:(s.length:Int)<2
 ·rw[dp c1,cond_true];refine⟨fun n w h=>?_,fun _=>rfl⟩;have:=h.1;omega
 ·rw[dn c1,cond_false]
  have hne:s.drop (s.length-2)≠[]:=fun q=>by have:=congrArg List.length q;rw[sK2,jK2]at this;omega
  rw[if_neg hne];have hp2:=(mP wd (s.drop (s.length-2)) 0 (by omega)).2;have hp3:=iE1 wd (s.drop (s.length-2)) 0 (by omega);have h7:(wd.length:Int)=7:=rfl;have tail:∀n w,isD s n w→w=posF 0 wd (s.drop (s.length-2))→fA.l3a (p.map mkS) i w n false y=fA.l1a (p.map mkS) (i+1:Nat) (y++[7*n+w]):=by intro n w h _;have hb:=sA2 h;rw[fA.l3a_eq];simp(disch:=omega)only[ss,fA.l4a_eq,sJ2,hlim];rfl
  have stop:∀n w,fA.l3a (p.map mkS) i w n true y=some ([],false,()):=fun n w=>by rw[fA.l3a_eq,cond_true]
  by_cases c3:posF 0 wd (s.drop (s.length-2))<0
  ·refine⟨fun n w h=>?_,fun _=>?_⟩
   ·have h2:=h.2.1;have h3:=h.2.2.1;omega
   ·by_cases c2:((s.length-2:Nat):Int)>0
    ·rw[dp c2,cond_true];rcases rJ (s.take (s.length-2)) (by rw[dK2];omega)with⟨n,hn,hf⟩ | ⟨hn,n,hf⟩
     ·simp(disch:=omega)only[ss,hf,fA.l2a_eq,stop]
     ·simp(disch:=omega)only[ss,hf,fA.l2a_eq,stop]
    ·rw[dn c2,cond_false];simp(disch:=omega)only[ss,fA.l2a_eq,stop]
  ·by_cases c2:((s.length-2:Nat):Int)>0
   ·have hnt:s.take (s.length-2)≠[]:=fun q=>by have:=congrArg List.length q;rw[dK2,jK2]at this;omega
    rw[dp c2,cond_true];rcases rJ (s.take (s.length-2)) (by rw[dK2];omega)with⟨n,hn,hf⟩ | ⟨hn,n,hf⟩
    ·simp(disch:=omega)only[ss,hf,fA.l2a_eq];by_cases c4:n=0
     ·rw[dp c4,stop];refine⟨fun m w h=>?_,fun _=>rfl⟩;rcases h.2.2.2 with⟨h5,_⟩ | ⟨_,h6,h8⟩
      ·exact absurd h5 hnt
      ·exact absurd ((zJ h6 hn).trans c4) h8
     ·have hD:isD s n (posF 0 wd (s.drop (s.length-2))):=⟨by omega,rfl,by omega,.inr ⟨hnt,hn,c4⟩⟩
      rw[dn c4,tail n _ hD rfl];refine⟨fun m w h=>?_,fun h=>absurd hD (h _ _)⟩;obtain⟨e1,e2⟩:=fR h hD;rw[e1,e2]
    ·simp(disch:=omega)only[ss,hf,fA.l2a_eq,stop];refine⟨fun m w h=>?_,fun _=>trivial⟩;rcases h.2.2.2 with⟨h5,_⟩ | ⟨_,h6,_⟩
     ·exact absurd h5 hnt
     ·exact absurd h6 (hn m)
   ·have hnt:s.take (s.length-2)=[]:=kK2 (by rw[dK2];omega);have hD:isD s 0 (posF 0 wd (s.drop (s.length-2))):=⟨by omega,rfl,by omega,.inl ⟨hnt,rfl⟩⟩
    rw[dn c2,cond_false];simp(disch:=omega)only[ss,fA.l2a_eq];rw[tail 0 _ hD rfl];refine⟨fun m w h=>?_,fun h=>absurd hD (h _ _)⟩;obtain⟨e1,e2⟩:=fR h hD;rw[e1,e2]
abbrev gP (l:List Dy):Prop:=l.Pairwise dyLt
theorem fQ :∀{a b:List Dy},gP a→gP b→(∀x,x∈a↔x∈b)→a=b
 | [],[],_,_,_=>rfl
 | [],y::b,_,_,h=>by have:=(h y).2 zJ2;cases this
 | x::a,[],_,_,h=>by have:=(h x).1 zJ2;cases this
 | x::a,y::b,ha,hb,h=>by
  have ha:=aL2.1 ha;have hb:=aL2.1 hb;have irr:∀q:Dy,¬dyLt q q:=fun q hq=>by unfold dyLt at hq;omega
  have asy:∀q r:Dy,dyLt q r→dyLt r q→False:=fun q r h g=>by unfold dyLt at *;omega
  have e:x=y:=by
   have h1:=(h x).1 zJ2;have h2:=(h y).2 zJ2;rcases uJ2.1 h1 with h1 | h1
   ·exact h1
   ·rcases uJ2.1 h2 with h2 | h2
    ·exact h2.symm
    ·exact(asy _ _ (hb.1 x h1) (ha.1 y h2)).elim
  subst e;rw[fQ ha.2 hb.2 fun z=>?_];have h3:=h z;simp only[uJ2]at h3;constructor
  ·intro hz;rcases h3.1 (.inr hz)with h4 | h4
   ·exact(irr _ (h4 ▸ ha.1 z hz)).elim
   ·exact h4
  ·intro hz;rcases h3.2 (.inr hz)with h4 | h4
   ·exact(irr _ (h4 ▸ hb.1 z hz)).elim
   ·exact h4
theorem tS1 :∀(l:List Dy) (p x:Dy),x∈ddT p l∨x=p↔x∈l∨x=p
 | [],p,x=>by simp[ddT]
 | a::l,p,x=>by
  unfold ddT;have ih:=tS1 l a x;by_cases h:a=p
  ·subst h;rw[if_pos rfl,ih,uJ2];constructor
   ·rintro(h | h)
    ·exact .inl (.inr h)
    ·exact .inr h
   ·rintro((h | h) | h)
    ·exact .inr h
    ·exact .inl h
    ·exact .inr h
  ·rw[if_neg h,uJ2,uJ2];constructor
   ·rintro((h1 | h1) | h1)
    ·exact .inl (.inl h1)
    ·rcases ih.1 (.inl h1)with h2 | h2
     ·exact .inl (.inr h2)
     ·exact .inl (.inl h2)
    ·exact .inr h1
   ·rintro((h1 | h1) | h1)
    ·exact .inl (.inl h1)
    ·rcases ih.2 (.inl h1)with h2 | h2
     ·exact .inl (.inr h2)
     ·exact .inl (.inl h2)
    ·exact .inr h1
def dyLe (a b:Dy):Prop:=a.1<b.1∨a.1=b.1∧a.2.1≤b.2.1
theorem kE2 {a b:Dy} (h:dyLe a b) (hne:¬b=a):dyLt a b:=by
 obtain⟨a1,a2,⟨⟩⟩:=a;obtain⟨b1,b2,⟨⟩⟩:=b;unfold dyLe at h;unfold dyLt;simp only at h ⊢;by_cases h1:a1=b1
 ·by_cases h2:a2=b2
  ·exact absurd (by rw[h1,h2]) hne
  ·omega
 ·omega
theorem fH1 :∀(l:List Dy) (p:Dy),(p::l).Pairwise dyLe→gP (p::ddT p l)
 | [],p,_=>List.pairwise_singleton _ _
 | a::l,p,h=>by
  unfold ddT;rw[aL2]at h;have ih:=fH1 l a h.2;by_cases he:a=p
  ·subst he;rw[if_pos rfl];exact ih
  ·rw[if_neg he];have hlt:dyLt p a:=kE2 (h.1 a zJ2) he;refine aL2.2 ⟨fun b hb=>?_,ih⟩;rcases uJ2.1 hb with rfl | hb
   ·exact hlt
   ·have:=(aL2.1 ih).1 b hb;unfold dyLt at *;omega
theorem bR1 :∀(l:List Dy) (p:Dy),(ddT p l).length≤l.length
 | [],_=>aK2 _
 | a::l,p=>by unfold ddT;have:=bR1 l a;split <;> simp <;> omega
theorem yN1 {y:List Dy} (hy:y.length≤1000000) (hb:∀d∈y,-1000000000≤d.1∧d.1≤1000000000∧0≤d.2.1∧d.2.1≤6):
  ∃r,mC.f y ()=some (r,(),())∧r.length=y.length∧gP (ddsT r)∧(∀x,x∈ddsT r↔x∈y)∧(ddsT r).length≤y.length:=by
 have hall:y.all kJ=true:=kL2.2 fun d hd=>by have:=hb d hd;unfold kJ small;simp only[tJ2,decide_eq_true_eq];omega
 obtain⟨r,hr⟩:∃r:List Dy,aO kJ yB1 fZ y=some r:=by unfold aO;rw[hall];exact⟨_,rfl⟩
 have hp:List.Perm (α:=Dy) r y:=nO oG1 hr;have hso0:List.Pairwise (α:=Dy) (fun a b=>¬fZ b a<0) r:=sT oG1 hr
 have hso:r.Pairwise dyLe:=hso0.imp fun {a b} h=>by have h2:=hD1 b.1 b.2.1 a.1 a.2.1;have h3:decide (jQ b.1 b.2.1 a.1 a.2.1<0)=false:=decide_eq_false h;rw[h3]at h2;have:=of_decide_eq_false h2.symm;unfold dyLe;omega
 have hf:mC.f y ()=some (r,(),()):=by rw[mC.f_sem];show(bif decide (List.length y≤pC)then(aO kJ yB1 fZ y).map (fun ys=>(ys,(),()))else none)=_;rw[dp (by simp only[pC];omega),cond_true,hr];rfl
 refine⟨r,hf,hp.length_eq,?_,fun x=>?_,?_⟩
 ·cases r with
  | nil=>exact List.Pairwise.nil
  | cons a r=>exact fH1 r a hso
 ·have e:x∈ddsT r↔x∈r:=by
   cases r with
   | nil=>exact Iff.rfl
   | cons a r=>
    show x∈a::ddT a r↔_;rw[uJ2,uJ2];have:=tS1 r a x;constructor
    ·rintro(h | h)
     ·exact .inl h
     ·rcases this.1 (.inl h)with h | h
      ·exact .inr h
      ·exact .inl h
    ·rintro(h | h)
     ·exact .inl h
     ·rcases this.2 (.inl h)with h | h
      ·exact .inr h
      ·exact .inl h
  rw[e,hp.mem_iff]
 ·rw[←hp.length_eq]
  cases r with
  | nil=>exact aK2 _
  | cons a r=>show(a::ddT a r).length≤_;simp[bR1]
def isDy (s:List UInt8) (d:Dy):Prop:=isD s d.1 d.2.1
theorem rU1 :∀p:List (List UInt8),(∃ds:List Dy,All2 isDy p ds) ∨ ∃s∈p,∀n w,¬isD s n w
 | []=>.inl ⟨[],trivial⟩
 | s::p=>by
  by_cases h:∃n w,isD s n w
  ·obtain⟨n,w,hn⟩:=h;rcases rU1 p with⟨ns,h2⟩ | ⟨t,ht,h2⟩
   ·exact .inl ⟨(n,w,())::ns,hn,h2⟩
   ·exact .inr ⟨t,wJ2 _ ht,h2⟩
  ·exact .inr ⟨s,zJ2,fun n w hn=>h ⟨n,w,hn⟩⟩
noncomputable def yS1 (y:List Dy):Option (List Dy×Bool×Unit):=bif decide ((y.length:Int)>60)then(some ([],false,()))else((mC.f y ()).bind fun t3=>(dA.f t3.1).bind fun t4=>some (t4.1,true,()))
theorem tX1 (p:List (List UInt8)) (hp:p.length≤100000) (hpl:∀s∈p,s.length≤100000):∀(k i:Nat) (y:List Dy),p.length-i=k→i≤p.length→y.length≤i →
  (∀ds,All2 isDy (p.drop i) ds→zC.l1 (p.map mkS) p.length i y=yS1 (y++ds))∧((∃s∈p.drop i,∀n w,¬isD s n w)→zC.l1 (p.map mkS) p.length i y=some ([],false,())):=by
 have hlim:pC=17179869184:=rfl;have hml:(p.map mkS).length=p.length:=vJ2 ..;intro k
 induction k with
 | zero=>
  intro i y hk hi hy;have e:i=p.length:=by omega
  subst e;rw[zC.l1_eq,fL2];simp(disch:=omega)only[ss,hml];refine⟨fun ns hns=>?_,fun⟨s,hs,_⟩=>by cases hs⟩
  cases ns with
  | nil=>rw[cK2];rfl
  | cons _ _=>exact hns.elim
 | succ k ih=>
  intro i y hk hi hy;have hlt:i<p.length:=by omega
  have hg:=gm p i hlt;rw[zC.l1_eq,qC [] hlt];rcases tW1 (p.getD i []) (by have:=hpl _ (yC [] hlt);omega)with⟨n,w,hn,hf⟩ | ⟨hn,d,hf⟩
  ·simp(disch:=omega)only[ss,hml,hg,hf,sJ2,hlim];obtain⟨h1,h2⟩:=ih (i+1) (y++[(n,w,())]) (by omega) (by omega) (by simp;omega);refine⟨fun ns hns=>?_,fun⟨s,hs,hs2⟩=>?_⟩
   ·cases ns with
    | nil=>exact hns.elim
    | cons m ns=>
     obtain⟨m1,m2,⟨⟩⟩:=m;obtain⟨e1,e2⟩:=fR hns.1 hn;simp only at e1 e2;subst e1 e2;refine(h1 ns hns.2).trans ?_;rw[eK2];rfl
   ·refine h2 ?_;rcases uJ2.1 hs with rfl | hs
    ·exact absurd hn (hs2 n w)
    ·exact⟨s,hs,hs2⟩
  ·simp(disch:=omega)only[ss,hml,hg,hf];refine⟨fun ns hns=>?_,fun _=>trivial⟩
   cases ns with
   | nil=>exact hns.elim
   | cons m ns=>exact absurd hns.1 (hn _ _)
def keyD (d:Dy):Int:=7*d.1+d.2.1
noncomputable def iG2 (y:List Int):Option (List Dy×Bool×Unit):=(oA.f y).bind fun t9=>fA.l5 t9.1 0 []
theorem qS1 (p:List (List UInt8)) (hp:p.length≤100000) (hpl:∀s∈p,s.length≤100000):∀(k i:Nat) (y:List Int),p.length-i=k→i≤p.length→y.length≤i →
  (∀ds,All2 isDy (p.drop i) ds→fA.l1a (p.map mkS) i y=iG2 (y++ds.map keyD))∧((∃s∈p.drop i,∀n w,¬isD s n w)→fA.l1a (p.map mkS) i y=some ([],false,())):=by
 have hml:(p.map mkS).length=p.length:=vJ2 ..;intro k
 induction k with
 | zero=>
  intro i y hk hi hy;have e:i=p.length:=by omega
  subst e;rw[fA.l1a_eq,fL2];simp(disch:=omega)only[ss,hml];refine⟨fun ns hns=>?_,fun⟨s,hs,_⟩=>by cases hs⟩
  cases ns with
  | nil=>rw[aN2,cK2];rfl
  | cons _ _=>exact hns.elim
 | succ k ih=>
  intro i y hk hi hy;have hlt:i<p.length:=by omega
  obtain⟨g1,g2⟩:=zU1 p hp i hlt (hpl _ (yC [] hlt)) y hy;rw[qC [] hlt];by_cases h:∃n w,isD (p.getD i []) n w
  ·obtain⟨n,w,hn⟩:=h;rw[g1 n w hn];obtain⟨h1,h2⟩:=ih (i+1) (y++[7*n+w]) (by omega) (by omega) (by simp;omega);refine⟨fun ns hns=>?_,fun⟨s,hs,hs2⟩=>?_⟩
   ·cases ns with
    | nil=>exact hns.elim
    | cons m ns=>
     obtain⟨m1,m2,⟨⟩⟩:=m;obtain⟨e1,e2⟩:=fR hns.1 hn;simp only at e1 e2;subst e1 e2;refine(h1 ns hns.2).trans ?_;rw[eK2];rfl
   ·refine h2 ?_;rcases uJ2.1 hs with rfl | hs
    ·exact absurd hn (hs2 n w)
    ·exact⟨s,hs,hs2⟩
  ·have hn:∀n w,¬isD (p.getD i []) n w:=fun n w hn=>h ⟨n,w,hn⟩
   rw[g2 hn];refine⟨fun ns hns=>?_,fun _=>rfl⟩
   cases ns with
   | nil=>exact hns.elim
   | cons m ns=>exact absurd hns.1 (hn _ _)
def decD (k:Int):Dy:=(k/7,k%7,())
theorem lH2 (q:List Int) (hq:q.length≤100000) (hb:∀k∈q,-10000000000≤k∧k≤10000000000):∀(k i:Nat) (y:List Dy),q.length-i=k→i≤q.length→y.length≤i→fA.l5 q i y=some (y++(q.drop i).map decD,true,()):=by
 have hlim:pC=17179869184:=rfl;intro k
 induction k with
 | zero=>
  intro i y hk hi hy;have e:i=q.length:=by omega
  subst e;rw[fA.l5_eq,fL2];simp(disch:=omega)only[ss];simp
 | succ k ih=>
  intro i y hk hi hy;have hlt:i<q.length:=by omega
  have hk2:=hb _ (yC 0 hlt);rw[fA.l5_eq,qC 0 hlt];simp only[pL2];generalize q.getD i 0=v at hk2;have e1:w6 (Int.tmod v 7+7)=Int.tmod v 7+7:=by have h1:=Int.tmod_lt_of_pos v (show(0:Int)<7 by omega);have h2:=Int.lt_tmod_of_pos v (show(0:Int)<7 by omega);exact wr (by omega) (by omega)
  have e2:Int.tmod (Int.tmod v 7+7) 7=v%7:=by
   by_cases h:0≤v
   ·rw[mM2 h,mM2 (by omega)];omega
   ·have h1:Int.tmod v 7 = -((-v)%7):=by
     have:Int.tmod v 7 = -Int.tmod (-v) 7:=by rw[Int.neg_tmod,Int.neg_neg]
     rw[this,mM2 (by omega)]
    rw[h1,mM2 (by omega)];omega
  have e3:Int.tdiv (v-v%7) 7=v/7:=by
   have:v-v%7=(v/7)*7:=by omega
   rw[this];exact Int.mul_tdiv_cancel _ (by omega)
  have e4:w6 (v-v%7)=v-v%7:=wr (by omega) (by omega);have e5:w6 (v/7)=v/7:=wr (by omega) (by omega);rw[e1,e2,e4,e3,e5];simp(disch:=omega)only[ss,sJ2,hlim];refine(ih (i+1) (y++[(v/7,v%7,())]) (by omega) (by omega) (by simp;omega)).trans ?_;rw[eK2];rfl
def isDL (v:List UInt8) (r:List Dy):Prop:=(gP r∧r.length≤60) ∧ ∃ds,All2 isDy (segs 44 v) ds∧ds.length≤60 ∧ ∀x,x∈r↔x∈ds
theorem oA2 :∀{p:List (List UInt8)} {ds:List Dy},All2 isDy p ds → ∀d∈ds,-1000000000≤d.1∧d.1≤1000000000∧0≤d.2.1∧d.2.1≤6
 | [],[],_,d,hd=>by cases hd
 | s::p,x::ds,h,d,hd=>by
  rcases uJ2.1 hd with rfl | hd
  ·have:=sA2 h.1;omega
  ·exact oA2 h.2 d hd
 | [],_::_,h,_,_=>h.elim
 | _::_,[],h,_,_=>h.elim
theorem iU (v:List UInt8) (hv:v.length≤50000):
  (∃r,isDL v r∧zC.f (mkS v)=some (r,true,())∧fA.f (mkS v)=some (r,true,())) ∨
  ((∀r,¬isDL v r)∧zC.f (mkS v)=some ([],false,())∧fA.f (mkS v)=some ([],false,())):=by
 have hsl:=xM 44 v;have hS:qD.f (mkS v) ⟨#[44]⟩=some ((segs 44 v).map mkS,()):=pK (c:=44) v (by omega);have hV:tB.f (mkS v) 44=some ((segs 44 v).map mkS,()):=cL 44 v (by omega);have hml:((segs 44 v).map mkS).length=(segs 44 v).length:=vJ2 ..;have h1:=tX1 (segs 44 v) (by omega) (fun s hs=>by have:=hsl.2 s hs;omega) _ 0 [] rfl (xJ2 _) (aK2 _);have h2:=qS1 (segs 44 v) (by omega) (fun s hs=>by have:=hsl.2 s hs;omega) _ 0 [] rfl (xJ2 _) (aK2 _);rw[oK2,fK2]at h1 h2;have hf1:zC.f (mkS v)=zC.l1 ((segs 44 v).map mkS) (segs 44 v).length 0 []:=by rw[zC.f_eq,hS,←hml];rfl
 have hf2:fA.f (mkS v)=bif decide (((segs 44 v).length:Int)>60)then some ([],false,())else fA.l1a ((segs 44 v).map mkS) 0 []:=by rw[fA.f_eq,hV,←hml,←bI2];rfl
 rcases rU1 (segs 44 v)with⟨ds,hds⟩ | hbad
 ·have hlen:=dR hds;have hbd:=oA2 hds;have e1:=h1.1 ds hds;have e2:=h2.1 ds hds;rw[xK2]at e1 e2;by_cases h60:(ds.length:Int)>60
  ·refine .inr ⟨fun r hr=>?_,?_,?_⟩
   ·obtain⟨_,ms,h3,h4,_⟩:=hr;have:=dR h3;omega
   ·rw[hf1,e1];unfold yS1;simp(disch:=omega)only[ss]
   ·rw[hf2];simp(disch:=omega)only[ss]
  ·obtain⟨r,h3,h4,h5,h6,h6l⟩:=yN1 (y:=ds) (by omega) hbd;have hkl:(ds.map keyD).length=ds.length:=vJ2 ..;obtain⟨q,h7,h8,h9⟩:=oY (ds.map keyD) (by omega)
   have hqb:∀k∈q,-10000000000≤k∧k≤10000000000:=fun k hk=>by obtain⟨d,hd,rfl⟩:=nK2.1 ((h9 k).1 hk);have:=hbd d hd;unfold keyD;omega
   have hdk:∀d∈ds,decD (keyD d)=d:=fun d hd=>by have:=hbd d hd;obtain⟨a,b,⟨⟩⟩:=d;unfold decD keyD;simp only at this ⊢;rw[show(7*a+b)/7=a by omega,show(7*a+b)%7=b by omega]
   have hrq:gP (q.map decD):=by rw[gP,List.pairwise_map];exact h8.imp fun {a b} h=>by unfold dyLt decD;simp only;omega
   have hmem:∀x,x∈q.map decD↔x∈ds:=fun x=>by
    rw[nK2];constructor
    ·rintro⟨k,hk,rfl⟩;obtain⟨d,hd,rfl⟩:=nK2.1 ((h9 k).1 hk);rw[hdk d hd];exact hd
    ·intro hx;exact⟨keyD x,(h9 _).2 (nK2.2 ⟨x,hx,rfl⟩),hdk x hx⟩
   have e:q.map decD=ddsT r:=fQ hrq h5 fun x=>(hmem x).trans (h6 x).symm
   have hql:q.length≤60:=by have:=congrArg List.length e;rw[vJ2]at this;omega
   have h10:=lH2 q (by omega) hqb _ 0 [] rfl (xJ2 _) (aK2 _);rw[oK2,xK2,fK2,e]at h10;refine .inl ⟨ddsT r,⟨⟨h5,by omega⟩,ds,hds,by omega,h6⟩,?_,?_⟩
   ·rw[hf1,e1];unfold yS1;simp(disch:=omega)only[ss,h3,vD1 r (by omega)]
   ·rw[hf2,e2];unfold iG2;simp(disch:=omega)only[ss,h7,h10]
 ·refine .inr ⟨fun r hr=>?_,?_,?_⟩
  ·obtain⟨_,ms,h3,_,_⟩:=hr;obtain⟨s,hs,hs2⟩:=hbad;have:∀(p:List (List UInt8)) (ms:List Dy),All2 isDy p ms→s∈p → ∃n w,isD s n w:=by
    intro p
    induction p with
    | nil=>intro ms _ h;cases h
    | cons t p ih=>
     intro ms h hm
     cases ms with
     | nil=>exact h.elim
     | cons m ms=>
      rcases uJ2.1 hm with rfl | hm
      ·exact⟨_,_,h.1⟩
      ·exact ih ms h.2 hm
   obtain⟨n,w,hn⟩:=this _ ms h3 hs;exact hs2 n w hn
  ·rw[hf1,h1.2 hbad]
  ·rw[hf2,h2.2 hbad];cases decide (((segs 44 v).length:Int)>60) <;> rfl
def sE (f:Option (Bool×Unit)) (p:Prop):Prop:=∃b,f=some (b,())∧(b=true↔p)
theorem sE.iff {f:Option (Bool×Unit)} {p q:Prop} (h:sE f p) (e:p↔q):sE f q:=by obtain⟨b,h1,h2⟩:=h;exact⟨b,h1,h2.trans e⟩
theorem sE.eq {f g:Option (Bool×Unit)} {p:Prop} (h:sE f p) (k:sE g p):f=g:=by
 obtain⟨b,h1,h2⟩:=h;obtain⟨c,k1,k2⟩:=k;have:b=c:=by cases b <;> cases c <;> simp at h2 k2 <;> first | rfl | exact absurd k2 h2 | exact absurd h2 k2
 rw[h1,k1,this]
def okI (l:List Int) (lo hi:Int) (z:Bool) (j:Nat):Prop:=lo≤l.getD j 0∧l.getD j 0≤hi∧(l.getD j 0=0→z=true)
def adjI (l:List Int) (j:Nat):Prop:=0<j→l.getD (j-1) 0<l.getD j 0
theorem zP1 (l:List Int) (lo hi:Int) (z:Bool) (hl:l.length≤1000000):∀(k i:Nat),l.length-i=k→i≤l.length →
  sE (uB.l1 l lo hi z l l.length i) ((∀j,i≤j→j<l.length→okI l lo hi z j∧adjI l j)∧l.length≤60):=by
 intro k
 induction k with
 | zero=>
  intro i hk hil;rw[uB.l1_eq];simp(disch:=omega)only[ss];refine⟨_,rfl,?_⟩;rw[decide_eq_true_eq];exact⟨fun h=>⟨fun j h1 h2=>by omega,by omega⟩,fun h=>by omega⟩
 | succ k ih=>
  intro i hk hil;have hlt:i<l.length:=by omega
  have step:okI l lo hi z i∧adjI l i→sE (uB.l2 l lo hi z l l.length i false) ((∀j,i≤j→j<l.length→okI l lo hi z j∧adjI l j)∧l.length≤60):=fun h=>by
   rw[uB.l2_eq];simp(disch:=omega)only[ss];refine(ih (i+1) (by omega) (by omega)).iff ⟨fun q=>⟨fun j h1 h2=>?_,q.2⟩,fun q=>⟨fun j h1 h2=>q.1 j (by omega) h2,q.2⟩⟩;by_cases e:j=i
   ·subst e;exact h
   ·exact q.1 j (by omega) h2
  have stop:¬(okI l lo hi z i∧adjI l i)→sE (uB.l2 l lo hi z l l.length i true) ((∀j,i≤j→j<l.length→okI l lo hi z j∧adjI l j)∧l.length≤60):=fun h=>by rw[uB.l2_eq,cond_true];exact⟨false,rfl,by simp;intro q;exact absurd (q i (aK2 _) hlt) h⟩
  have last:okI l lo hi z i→sE (bif decide ((i:Int)>0)then(bif decide (0≤(i:Int)-1)then(uB.l2 l lo hi z l l.length i (decide (l.getD i 0≤l.getD (i-1) 0)))else none)else(uB.l2 l lo hi z l l.length i false)) ((∀j,i≤j→j<l.length→okI l lo hi z j∧adjI l j)∧l.length≤60):=fun h=>by
   by_cases h0:i=0
   ·simp(disch:=omega)only[ss];exact step ⟨h,fun q=>by omega⟩
   ·simp(disch:=omega)only[ss];by_cases c:l.getD i 0≤l.getD (i-1) 0
    ·rw[dp c];exact stop fun q=>by have:=q.2 (by omega);omega
    ·rw[dn c];exact step ⟨h,fun _=>by omega⟩
  rw[uB.l1_eq];simp(disch:=omega)only[ss];by_cases c1:l.getD i 0<lo
  ·rw[dp c1,cond_true];exact stop fun q=>by have:=q.1.1;omega
  ·by_cases c2:l.getD i 0>hi
   ·rw[dn c1,dp c2,cond_false,cond_true];exact stop fun q=>by have:=q.1.2.1;omega
   ·rw[dn c1,dn c2,cond_false,cond_false];by_cases c3:l.getD i 0=0
    ·rw[dp c3,cond_true]
     cases z with
     | false=>
      exact stop fun q=>by have:=q.1.2.2 c3;cases this
     | true=>exact last ⟨by omega,by omega,fun _=>rfl⟩
    ·rw[dn c3,cond_false];exact last ⟨by omega,by omega,fun q=>absurd q c3⟩
def wi (l:List Int) (lo hi:Int) (z:Bool):Prop:=(∀j,j<l.length→okI l lo hi z j∧adjI l j)∧l.length≤60
theorem dH (l:List Int) (lo hi:Int) (z:Bool) (hl:l.length≤1000000):sE (uB.f l lo hi z) (wi l lo hi z):=by have:=zP1 l lo hi z hl _ 0 rfl (xJ2 _);rw[fK2]at this;rw[uB.f_eq];exact this.iff ⟨fun h=>⟨fun j h2=>h.1 j (xJ2 _) h2,h.2⟩,fun h=>⟨fun j _ h2=>h.1 j h2,h.2⟩⟩
theorem kS1 (l:List Int) (hl:l.length≤1000000):∀(k i:Nat),l.length-i=k→0<i→sE (cE.l1 l i) (∀j,i≤j→j<l.length→adjI l j):=by
 intro k
 induction k with
 | zero=>
  intro i hk hil;rw[cE.l1_eq];by_cases hlt:i<l.length
  ·omega
  ·simp(disch:=omega)only[ss];exact⟨true,rfl,by simp;intro j h1 h2;omega⟩
 | succ k ih=>
  intro i hk hil;have hlt:i<l.length:=by omega
  have w1:w6 ((i:Int)-1)=((i-1:Nat):Int):=uS (by omega) (by omega);rw[cE.l1_eq];simp(disch:=omega)only[ss,w1];by_cases c:l.getD i 0≤l.getD (i-1) 0
  ·rw[dp c,cond_true];exact⟨false,rfl,by simp;exact⟨i,aK2 _,hlt,fun q=>by have:=q hil;omega⟩⟩
  ·rw[dn c,cond_false];refine(ih (i+1) (by omega) (by omega)).iff ⟨fun q j h1 h2=>?_,fun q j h1 h2=>q j (by omega) h2⟩;by_cases e:j=i
   ·subst e;intro _;omega
   ·exact q j (by omega) h2
theorem pM (l:List Int) (hl:l.length≤1000000):sE (cE.f l) (∀j,j<l.length→adjI l j):=by have:=kS1 l hl _ 1 rfl (by omega);rw[cE.f_eq];exact this.iff ⟨fun h j h2 h0=>h j (by omega) h2 h0,fun h j _ h2=>h j h2⟩
theorem bO1 (l:List Int) (lo hi:Int) (z:Bool) (hl:l.length≤1000000):∀(k i:Nat),l.length-i=k→i≤l.length →
  sE (fB.l1 l lo hi z i) ((∀j,i≤j→j<l.length→okI l lo hi z j)∧(∀j,j<l.length→adjI l j)∧l.length≤60):=by
 intro k
 induction k with
 | zero=>
  intro i hk hil;rw[fB.l1_eq];simp(disch:=omega)only[ss];by_cases c:(l.length:Int)≤60
  ·obtain⟨b,h1,h2⟩:=pM l hl;simp(disch:=omega)only[ss,h1];exact⟨b,rfl,h2.trans ⟨fun q=>⟨fun j h3 h4=>by omega,q,by omega⟩,fun q=>q.2.1⟩⟩
  ·simp(disch:=omega)only[ss];exact⟨false,rfl,by simp;intro _ _;omega⟩
 | succ k ih=>
  intro i hk hil;have hlt:i<l.length:=by omega
  have step:okI l lo hi z i→sE (fB.l2 l lo hi z i false) ((∀j,i≤j→j<l.length→okI l lo hi z j)∧(∀j,j<l.length→adjI l j)∧l.length≤60):=fun h=>by
   rw[fB.l2_eq];simp(disch:=omega)only[ss];refine(ih (i+1) (by omega) (by omega)).iff ⟨fun q=>⟨fun j h1 h2=>?_,q.2⟩,fun q=>⟨fun j h1 h2=>q.1 j (by omega) h2,q.2⟩⟩;by_cases e:j=i
   ·subst e;exact h
   ·exact q.1 j (by omega) h2
  have stop:¬okI l lo hi z i→sE (fB.l2 l lo hi z i true) ((∀j,i≤j→j<l.length→okI l lo hi z j)∧(∀j,j<l.length→adjI l j)∧l.length≤60):=fun h=>by rw[fB.l2_eq,cond_true];exact⟨false,rfl,by simp;intro q;exact absurd (q i (aK2 _) hlt) h⟩
  rw[fB.l1_eq];simp(disch:=omega)only[ss];by_cases c1:l.getD i 0<lo
  ·rw[dp c1,cond_true];exact stop fun q=>by have:=q.1;omega
  ·by_cases c2:l.getD i 0>hi
   ·rw[dn c1,dp c2,cond_false,cond_true];exact stop fun q=>by have:=q.2.1;omega
   ·rw[dn c1,dn c2,cond_false,cond_false];by_cases c3:l.getD i 0=0
    ·rw[dp c3,cond_true]
     cases z with
     | false=>exact stop fun q=>by have:=q.2.2 c3;cases this
     | true=>exact step ⟨by omega,by omega,fun _=>rfl⟩
    ·rw[dn c3,cond_false];exact step ⟨by omega,by omega,fun q=>absurd q c3⟩
theorem pG (l:List Int) (lo hi:Int) (z:Bool) (hl:l.length≤1000000):sE (fB.f l lo hi z) (wi l lo hi z):=by have:=bO1 l lo hi z hl _ 0 rfl (xJ2 _);rw[fK2]at this;rw[fB.f_eq];exact this.iff ⟨fun h=>⟨fun j h2=>⟨h.1 j (xJ2 _) h2,h.2.1 j h2⟩,h.2.2⟩,fun h=>⟨fun j _ h2=>(h.1 j h2).1,fun j h2=>(h.1 j h2).2,h.2⟩⟩
def gD (l:List Dy) (j:Nat):Dy:=l.getD j ((0,0,()):Int×Int×Unit)
def okD (l:List Dy) (j:Nat):Prop:= -53≤(gD l j).1∧(gD l j).1≤53∧0≤(gD l j).2.1∧(gD l j).2.1≤6∧(0<j→dyLt (gD l (j-1)) (gD l j))
def dwi (l:List Dy):Prop:=(∀j,j<l.length→okD l j)∧l.length≤60
theorem xF2 (l:List Dy) (hl:l.length≤1000000):∀(k i:Nat),l.length-i=k→i≤l.length→sE (eB.l1 l i) ((∀j,i≤j→j<l.length→okD l j)∧l.length≤60):=by
 intro k
 induction k with
 | zero=>
  intro i hk hil;rw[eB.l1_eq];simp(disch:=omega)only[ss];refine⟨_,rfl,?_⟩;rw[decide_eq_true_eq];exact⟨fun h=>⟨fun j h1 h2=>by omega,by omega⟩,fun h=>by omega⟩
 | succ k ih=>
  intro i hk hil;have hlt:i<l.length:=by omega
  have step:okD l i→sE (eB.l2 l i false) ((∀j,i≤j→j<l.length→okD l j)∧l.length≤60):=fun h=>by
   rw[eB.l2_eq];simp(disch:=omega)only[ss];refine(ih (i+1) (by omega) (by omega)).iff ⟨fun q=>⟨fun j h1 h2=>?_,q.2⟩,fun q=>⟨fun j h1 h2=>q.1 j (by omega) h2,q.2⟩⟩;by_cases e:j=i
   ·subst e;exact h
   ·exact q.1 j (by omega) h2
  have stop:¬okD l i→sE (eB.l2 l i true) ((∀j,i≤j→j<l.length→okD l j)∧l.length≤60):=fun h=>by rw[eB.l2_eq,cond_true];exact⟨false,rfl,by simp;intro q;exact absurd (q i (aK2 _) hlt) h⟩
  have hg:l.getD i ((0,0,()):Int×Int×Unit)=gD l i:=rfl;have hg1:l.getD (i-1) ((0,0,()):Int×Int×Unit)=gD l (i-1):=rfl;rw[eB.l1_eq];simp(disch:=omega)only[ss,hg];by_cases c1:(gD l i).1 < -53
  ·rw[dp c1,cond_true];exact stop fun q=>by have:=q.1;omega
  ·by_cases c2:(gD l i).1>53
   ·rw[dn c1,dp c2,cond_false,cond_true];exact stop fun q=>by have:=q.2.1;omega
   ·by_cases c3:(gD l i).2.1<0
    ·rw[dn c1,dn c2,dp c3,cond_false,cond_false,cond_true];exact stop fun q=>by have:=q.2.2.1;omega
    ·by_cases c4:(gD l i).2.1>6
     ·rw[dn c1,dn c2,dn c3,dp c4,cond_false,cond_false,cond_false,cond_true];exact stop fun q=>by have:=q.2.2.2.1;omega
     ·rw[dn c1,dn c2,dn c3,dn c4,cond_false,cond_false,cond_false,cond_false];by_cases h0:i=0
      ·simp(disch:=omega)only[ss];exact step ⟨by omega,by omega,by omega,by omega,fun q=>by omega⟩
      ·have w1:w6 ((i:Int)-1)=((i-1:Nat):Int):=uS (by omega) (by omega);simp(disch:=omega)only[ss,w1,hg1];by_cases c5:(gD l i).1<(gD l (i-1)).1
       ·rw[dp c5,cond_true];exact stop fun q=>by have:=q.2.2.2.2 (by omega);unfold dyLt at this;omega
       ·by_cases c6:(gD l i).1=(gD l (i-1)).1
        ·rw[dn c5,dp c6,cond_false,cond_true];by_cases c7:(gD l i).2.1≤(gD l (i-1)).2.1
         ·rw[dp c7];exact stop fun q=>by have:=q.2.2.2.2 (by omega);unfold dyLt at this;omega
         ·rw[dn c7];exact step ⟨by omega,by omega,by omega,by omega,fun _=>by unfold dyLt;omega⟩
        ·rw[dn c5,dn c6,cond_false,cond_false];exact step ⟨by omega,by omega,by omega,by omega,fun _=>by unfold dyLt;omega⟩
theorem mM1 (l:List Dy) (hl:l.length≤1000000):sE (eB.f l) (dwi l):=by have:=xF2 l hl _ 0 rfl (xJ2 _);rw[fK2]at this;rw[eB.f_eq];exact this.iff ⟨fun h=>⟨fun j h2=>h.1 j (xJ2 _) h2,h.2⟩,fun h=>⟨fun j _ h2=>h.1 j h2,h.2⟩⟩
theorem gO1 (l:List Dy) (hl:l.length≤1000000):sE (cD.f l) (∃j,j<l.length∧(gD l j).1≠0):=by
 have key:∀(k i:Nat),l.length-i=k→i≤l.length→sE (cD.l1 l i) (∃j,i≤j∧j<l.length∧(gD l j).1≠0):=by
  intro k
  induction k with
  | zero=>
   intro i hk hil;rw[cD.l1_eq];simp(disch:=omega)only[ss];exact⟨false,rfl,by simp;intro j h1 h2;omega⟩
  | succ k ih=>
   intro i hk hil;have hlt:i<l.length:=by omega
   have hg:l.getD i ((0,0,()):Int×Int×Unit)=gD l i:=rfl;rw[cD.l1_eq];simp(disch:=omega)only[ss,hg];by_cases c:(gD l i).1=0
   ·rw[dp c];simp(disch:=omega)only[ss];refine(ih (i+1) (by omega) (by omega)).iff ⟨fun⟨j,h1,h2,h3⟩=>⟨j,by omega,h2,h3⟩,fun⟨j,h1,h2,h3⟩=>⟨j,?_,h2,h3⟩⟩;by_cases e:j=i
    ·subst e;exact absurd c h3
    ·omega
   ·rw[dn c];simp(disch:=omega)only[ss];exact⟨true,rfl,by simp;exact⟨i,aK2 _,hlt,c⟩⟩
 have:=key _ 0 rfl (xJ2 _);rw[fK2]at this;rw[cD.f_eq];exact this.iff ⟨fun⟨j,_,h⟩=>⟨j,h⟩,fun⟨j,h⟩=>⟨j,xJ2 _,h⟩⟩
abbrev Rl :=Int×Int×Int×Int×Int×Bool×List Int×List Int×List Int×List Int×List Dy×List Int×List Int×List Int×List Int×Unit
def Gate (f:Option (Bool×Unit)) (p:Prop) (K:Option (Bool×Unit)):Prop:=(p→f=K)∧(¬p→f=some (false,()))
theorem Gate.iff {f K:Option (Bool×Unit)} {p q:Prop} (h:Gate f p K) (e:p↔q):Gate f q K:=⟨fun x=>h.1 (e.2 x),fun x=>h.2 fun y=>x (e.1 y)⟩
theorem Gate.eq {f g K:Option (Bool×Unit)} {p:Prop} (h:Gate f p K) (k:Gate g p K):f=g:=by
 by_cases hp:p
 ·rw[h.1 hp,k.1 hp]
 ·rw[h.2 hp,k.2 hp]
theorem gI {f g K:Option (Bool×Unit)} {p q:Prop} (h:sE f p) (k:Gate g q K):Gate (f.bind fun t=>bif !t.1 then some (false,())else g) (p∧q) K:=by
 obtain⟨b,h1,h2⟩:=h;rw[h1];simp only[qJ2]
 cases b with
 | true=>exact⟨fun x=>k.1 x.2,fun x=>k.2 fun y=>x ⟨h2.1 rfl,y⟩⟩
 | false=>exact⟨fun x=>absurd (h2.2 x.1) (by simp),fun _=>rfl⟩
theorem jJ {f g:Option (Bool×Unit)} {p q:Prop} (h:sE f p) (k:sE g q):sE (f.bind fun t=>bif t.1 then g else some (false,())) (p∧q):=by
 obtain⟨b,h1,h2⟩:=h;obtain⟨c,k1,k2⟩:=k;rw[h1];simp only[qJ2]
 cases b with
 | true=>rw[cond_true];exact⟨c,k1,⟨fun x=>⟨h2.1 rfl,k2.1 x⟩,fun x=>k2.2 x.2⟩⟩
 | false=>exact⟨false,rfl,⟨fun x=>by simp at x,fun x=>absurd (h2.2 x.1) (by simp)⟩⟩
theorem kN1 {f:Option (Bool×Unit)} {p:Prop} (h:sE f p):sE (f.bind fun t=>some (t.1,())) p:=by obtain⟨b,h1,h2⟩:=h;exact⟨b,by rw[h1];rfl,h2⟩
def numd (f:Int) (we:List Int) (l:List Dy) (j:Nat):Prop:=(gD l j).1≠0→f=2∨f=1∧we.length=0
section
variable (f iv ct un wk : Int) (en : Bool) (mo we yd md : List Int) (dy : List Dy) (ho mi se po : List Int)
theorem fY1 (hl:dy.length≤1000000) (hw:we.length≤1000000):∀(k i:Nat),dy.length-i=k→i≤dy.length→(∀j,j<i→okD dy j) →
  sE (iB.l1 dy dy.length i f iv ct un wk en mo we yd md dy ho mi se po) ((∀j,i≤j→j<dy.length→okD dy j∧numd f we dy j)∧dy.length≤60):=by
 intro k
 induction k with
 | zero=>
  intro i hk hil hpre;rw[iB.l1_eq];simp(disch:=omega)only[ss];refine⟨_,rfl,?_⟩;rw[decide_eq_true_eq];exact⟨fun h=>⟨fun j h1 h2=>by omega,by omega⟩,fun h=>by omega⟩
 | succ k ih=>
  intro i hk hil hpre;have hlt:i<dy.length:=by omega
  have hg:dy.getD i ((0,0,()):Int×Int×Unit)=gD dy i:=rfl;have hg1:dy.getD (i-1) ((0,0,()):Int×Int×Unit)=gD dy (i-1):=rfl;have stop:¬(okD dy i∧numd f we dy i)→sE (some (false,())) ((∀j,i≤j→j<dy.length→okD dy j∧numd f we dy j)∧dy.length≤60):=fun h=>
   ⟨false,rfl,by simp;intro q;exact absurd (q i (aK2 _) hlt) h⟩
  have go:okD dy i→numd f we dy i→sE (iB.l3 dy dy.length i false f iv ct un wk en mo we yd md dy ho mi se po) ((∀j,i≤j→j<dy.length→okD dy j∧numd f we dy j)∧dy.length≤60):=fun h h'=>by
   rw[iB.l3_eq];simp(disch:=omega)only[ss];refine(ih (i+1) (by omega) (by omega) fun j hj=>?_).iff ⟨fun q=>⟨fun j h1 h2=>?_,q.2⟩,fun q=>⟨fun j h1 h2=>q.1 j (by omega) h2,q.2⟩⟩
   ·by_cases e:j=i
    ·subst e;exact h
    ·exact hpre j (by omega)
   ·by_cases e:j=i
    ·subst e;exact⟨h,h'⟩
    ·exact q.1 j (by omega) h2
  have l3t:iB.l3 dy dy.length i true f iv ct un wk en mo we yd md dy ho mi se po=some (false,()):=by rw[iB.l3_eq,cond_true]
  have bad:∀a b,¬okD dy i→sE (iB.l2 dy dy.length i true f iv ct un wk en mo we yd md dy ho mi se po a b) ((∀j,i≤j→j<dy.length→okD dy j∧numd f we dy j)∧dy.length≤60):=fun a b h=>by rw[iB.l2_eq,cond_true];exact stop fun q=>h q.1
  have good:okD dy i→sE (iB.l2 dy dy.length i false f iv ct un wk en mo we yd md dy ho mi se po (gD dy i).1 (gD dy i).2.1) ((∀j,i≤j→j<dy.length→okD dy j∧numd f we dy j)∧dy.length≤60):=fun h=>by
   rw[iB.l2_eq,cond_false];by_cases c1:(gD dy i).1=0
   ·simp(disch:=omega)only[ss];exact go h fun q=>absurd c1 q
   ·by_cases c2:f=2
    ·simp(disch:=omega)only[ss];exact go h fun _=>.inl c2
    ·by_cases c3:f=1
     ·by_cases c4:(we.length:Int)>0
      ·simp(disch:=omega)only[ss,l3t];exact stop fun q=>by rcases q.2 c1 with q | q <;> omega
      ·simp(disch:=omega)only[ss];exact go h fun _=>.inr ⟨c3,by omega⟩
     ·simp(disch:=omega)only[ss,l3t];exact stop fun q=>by rcases q.2 c1 with q | q <;> omega
  rw[iB.l1_eq];simp(disch:=omega)only[ss,hg];by_cases c1:(gD dy i).1 < -53
  ·rw[dp c1,cond_true];exact bad _ _ fun q=>by have:=q.1;omega
  ·by_cases c2:(gD dy i).1>53
   ·rw[dn c1,dp c2,cond_false,cond_true];exact bad _ _ fun q=>by have:=q.2.1;omega
   ·by_cases c3:(gD dy i).2.1<0
    ·rw[dn c1,dn c2,dp c3,cond_false,cond_false,cond_true];exact bad _ _ fun q=>by have:=q.2.2.1;omega
    ·by_cases c4:(gD dy i).2.1>6
     ·rw[dn c1,dn c2,dn c3,dp c4,cond_false,cond_false,cond_false,cond_true];exact bad _ _ fun q=>by have:=q.2.2.2.1;omega
     ·rw[dn c1,dn c2,dn c3,dn c4,cond_false,cond_false,cond_false,cond_false];by_cases h0:i=0
      ·simp(disch:=omega)only[ss];exact good ⟨by omega,by omega,by omega,by omega,fun q=>by omega⟩
      ·have hp:=hpre (i-1) (by omega);have b1:=hp.1;have b2:=hp.2.1;have b3:=hp.2.2.1;have b4:=hp.2.2.2.1;simp(disch:=omega)only[ss,hg1,mO.f_eq];by_cases c6:(gD dy (i-1)).1=(gD dy i).1
       ·simp(disch:=omega)only[ss];by_cases c7:(gD dy (i-1)).2.1-(gD dy i).2.1≥0
        ·rw[dp c7];exact bad _ _ fun q=>by have:=q.2.2.2.2 (by omega);unfold dyLt at this;omega
        ·rw[dn c7];exact good ⟨by omega,by omega,by omega,by omega,fun _=>by unfold dyLt;omega⟩
       ·simp(disch:=omega)only[ss];by_cases c7:(gD dy (i-1)).1-(gD dy i).1≥0
        ·rw[dp c7];exact bad _ _ fun q=>by have:=q.2.2.2.2 (by omega);unfold dyLt at this;omega
        ·rw[dn c7];exact good ⟨by omega,by omega,by omega,by omega,fun _=>by unfold dyLt;omega⟩
def nH1 :Prop:=wi mo 1 12 false∧wi we (-53) 53 false∧wi yd (-366) 366 false∧wi md (-31) 31 false∧wi ho 0 23 true∧wi mi 0 59 true∧wi se 0 59 true∧wi po (-366) 366 false∧(dwi dy ∧ ∀j,j<dy.length→numd f we dy j)
def jO :Prop:=mo.length≤100000∧we.length≤100000∧yd.length≤100000∧md.length≤100000∧dy.length≤100000∧ho.length≤100000∧mi.length≤100000∧se.length≤100000∧po.length≤100000
theorem tA1 (h:jO mo we yd md dy ho mi se po):sE (lH.f (f,iv,ct,un,wk,en,mo,we,yd,md,dy,ho,mi,se,po,())) (nH1 f mo we yd md dy ho mi se po):=by
 obtain⟨h1,h2,h3,h4,h5,h6,h7,h8,h9⟩:=h;have hD:=fY1 f iv ct un wk en mo we yd md dy ho mi se po (by omega) (by omega) _ 0 rfl (xJ2 _) fun j hj=>by omega
 rw[fK2]at hD;have hD2:sE (iB.f (f,iv,ct,un,wk,en,mo,we,yd,md,dy,ho,mi,se,po,())) (dwi dy ∧ ∀j,j<dy.length→numd f we dy j):=by rw[iB.f_eq];exact hD.iff ⟨fun q=>⟨⟨fun j hj=>(q.1 j (xJ2 _) hj).1,q.2⟩,fun j hj=>(q.1 j (xJ2 _) hj).2⟩,fun q=>⟨fun j _ hj=>⟨q.1.1 j hj,q.2 j hj⟩,q.1.2⟩⟩
 rw[lH.f_eq];exact jJ (dH mo 1 12 false (by omega)) (jJ (dH we (-53) 53 false (by omega)) (jJ (dH yd (-366) 366 false (by omega)) (jJ (dH md (-31) 31 false (by omega)) (jJ (dH ho 0 23 true (by omega)) (jJ (dH mi 0 59 true (by omega)) (jJ (dH se 0 59 true (by omega)) (jJ (dH po (-366) 366 false (by omega)) (kN1 hD2))))))))
def numP :Prop:=(1≤f∧f≤7∧1≤iv∧iv≤1000∧0≤ct∧ct≤4096∧0≤wk∧wk≤6)∧(en=true→(-62135596800≤un∧un≤253402300799)∧ct=0)∧(en=false→un=0)
theorem dQ1 :sE (iC.f (f,iv,ct,un,wk,en,mo,we,yd,md,dy,ho,mi,se,po,())) (numP f iv ct un wk en):=by
 have l1t:iC.l1 true f iv ct un wk en mo we yd md dy ho mi se po=some (false,()):=by rw[iC.l1_eq,cond_true]
 have no:¬(1≤f∧f≤7∧1≤iv∧iv≤1000∧0≤ct∧ct≤4096∧0≤wk∧wk≤6)→sE (some (false,())) (numP f iv ct un wk en):=fun h=>⟨false,rfl,⟨fun q=>by simp at q,fun q=>absurd q.1 h⟩⟩
 rw[iC.f_eq];dsimp only;by_cases c:1≤f∧f≤7∧1≤iv∧iv≤1000∧0≤ct∧ct≤4096∧0≤wk∧wk≤6
 ·obtain⟨c1,c2,c3,c4,c5,c6,c7,c8⟩:=c;simp(disch:=omega)only[ss,iC.l1_eq,eM.f_eq]
  cases en with
  | true=>
   simp(disch:=omega)only[ss];by_cases d1:un ≥ -62135596800
   ·by_cases d2:un≤253402300799
    ·simp(disch:=omega)only[ss];refine⟨_,rfl,?_⟩;rw[decide_eq_true_eq];exact⟨fun q=>⟨⟨c1,c2,c3,c4,c5,c6,c7,c8⟩,fun _=>⟨⟨by omega,d2⟩,q⟩,fun q=>by cases q⟩,fun q=>(q.2.1 rfl).2⟩
    ·simp(disch:=omega)only[ss];exact⟨false,rfl,⟨fun q=>by simp at q,fun q=>by have:=(q.2.1 rfl).1;omega⟩⟩
   ·simp(disch:=omega)only[ss];exact⟨false,rfl,⟨fun q=>by simp at q,fun q=>by have:=(q.2.1 rfl).1;omega⟩⟩
  | false=>
   simp(disch:=omega)only[ss];refine⟨_,rfl,?_⟩;rw[decide_eq_true_eq];exact⟨fun q=>⟨⟨c1,c2,c3,c4,c5,c6,c7,c8⟩,(fun q=>by cases q),fun _=>q⟩,fun q=>q.2.2 rfl⟩
 ·have hb:∀{p:Prop} [Decidable p] {x:Option (Bool×Unit)},(¬p→sE x (numP f iv ct un wk en))→(p→sE (some (false,())) (numP f iv ct un wk en))→sE (bif decide p then(some (false,()))else x) (numP f iv ct un wk en):=fun {p} _ {x} h1 h2=>by
   by_cases hp:p
   ·rw[dp hp,cond_true];exact h2 hp
   ·rw[dn hp,cond_false];exact h1 hp
  have hn:=no c;rw[l1t];refine hb (fun d1=>hb (fun d2=>hb (fun d3=>hb (fun d4=>hb (fun d5=>hb (fun d6=>hb (fun d7=>?_) fun _=>hn) fun _=>hn) fun _=>hn) fun _=>hn) fun _=>hn) fun _=>hn) fun _=>hn
  have:wk>6:=by omega
  rw[dp this,l1t];exact hn
def mayP :Prop:=numP f iv ct un wk en∧nH1 f mo we yd md dy ho mi se po∧(0<we.length→f=1)∧(0<yd.length → ¬(2≤f∧f≤4))∧(0<md.length→f≠3)
theorem sV (h:jO mo we yd md dy ho mi se po):Gate (vA.f (f,iv,ct,un,wk,en,mo,we,yd,md,dy,ho,mi,se,po,())) (mayP f iv ct un wk en mo we yd md dy ho mi se po) (vA.l5 f iv ct un wk en mo we yd md dy ho mi se po):=by
 have l1t:vA.l1 true f iv ct un wk en mo we yd md dy ho mi se po=some (false,()):=by rw[vA.l1_eq,cond_true]
 have l2t:vA.l2 true f iv ct un wk en mo we yd md dy ho mi se po=some (false,()):=by rw[vA.l2_eq,cond_true]
 have l3t:vA.l3 true f iv ct un wk en mo we yd md dy ho mi se po=some (false,()):=by rw[vA.l3_eq,cond_true]
 have l4t:vA.l4 true f iv ct un wk en mo we yd md dy ho mi se po=some (false,()):=by rw[vA.l4_eq,cond_true]
 have l4f:vA.l4 false f iv ct un wk en mo we yd md dy ho mi se po=vA.l5 f iv ct un wk en mo we yd md dy ho mi se po:=by rw[vA.l4_eq,cond_false]
 have g3:Gate (vA.l3 false f iv ct un wk en mo we yd md dy ho mi se po) (0<md.length→f≠3) (vA.l5 f iv ct un wk en mo we yd md dy ho mi se po):=by
  rw[vA.l3_eq,cond_false];by_cases c:(md.length:Int)>0
  ·rw[dp c,cond_true];by_cases c2:f=3
   ·rw[dp c2,l4t];exact⟨fun q=>absurd c2 (q (by omega)),fun _=>rfl⟩
   ·rw[dn c2,l4f];exact⟨fun _=>rfl,fun q=>absurd (fun _=>c2) q⟩
  ·rw[dn c,cond_false,l4f];exact⟨fun _=>rfl,fun q=>absurd (fun x=>by omega) q⟩
 have g2:Gate (vA.l2 false f iv ct un wk en mo we yd md dy ho mi se po) ((0<yd.length → ¬(2≤f∧f≤4))∧(0<md.length→f≠3)) (vA.l5 f iv ct un wk en mo we yd md dy ho mi se po):=by
  rw[vA.l2_eq,cond_false];by_cases c:(yd.length:Int)>0
  ·rw[dp c,cond_true];by_cases c2:f≥2
   ·rw[dp c2,cond_true];by_cases c3:f≤4
    ·rw[dp c3,l3t];exact⟨fun q=>absurd ⟨by omega,c3⟩ (q.1 (by omega)),fun _=>rfl⟩
    ·rw[dn c3];exact g3.iff ⟨fun q=>⟨fun _=>by omega,q⟩,fun q=>q.2⟩
   ·rw[dn c2,cond_false];exact g3.iff ⟨fun q=>⟨fun _=>by omega,q⟩,fun q=>q.2⟩
  ·rw[dn c,cond_false];exact g3.iff ⟨fun q=>⟨fun x=>by omega,q⟩,fun q=>q.2⟩
 have g1:Gate (vA.l1 false f iv ct un wk en mo we yd md dy ho mi se po) ((0<we.length→f=1)∧(0<yd.length → ¬(2≤f∧f≤4))∧(0<md.length→f≠3)) (vA.l5 f iv ct un wk en mo we yd md dy ho mi se po):=by
  rw[vA.l1_eq,cond_false];by_cases c:(we.length:Int)>0
  ·rw[dp c,cond_true];by_cases c2:f=1
   ·rw[dp c2,zK2];exact g2.iff ⟨fun q=>⟨fun _=>c2,q⟩,fun q=>q.2⟩
   ·rw[dn c2,jL2,l2t];exact⟨fun q=>absurd (q.1 (by omega)) c2,fun _=>rfl⟩
  ·rw[dn c,cond_false];exact g2.iff ⟨fun q=>⟨fun x=>by omega,q⟩,fun q=>q.2⟩
 have hL:Gate ((lH.f (f,iv,ct,un,wk,en,mo,we,yd,md,dy,ho,mi,se,po,())).bind fun t2=>vA.l1 (!t2.1) f iv ct un wk en mo we yd md dy ho mi se po) (nH1 f mo we yd md dy ho mi se po∧(0<we.length→f=1)∧(0<yd.length → ¬(2≤f∧f≤4))∧(0<md.length→f≠3)) (vA.l5 f iv ct un wk en mo we yd md dy ho mi se po):=by
  have:=gI (tA1 f iv ct un wk en mo we yd md dy ho mi se po h) g1;obtain⟨b,h1,_⟩:=tA1 f iv ct un wk en mo we yd md dy ho mi se po h;rw[h1]at this ⊢;simp only[qJ2]at this ⊢
  cases b with
  | true=>exact this
  | false=>rw[jL2,l1t];exact this
 rw[vA.f_eq];have:=gI (dQ1 f iv ct un wk en mo we yd md dy ho mi se po) hL;simp only[l1t];exact this
end
theorem dS {K:Option (Bool×Unit)} {p:Prop} (h:¬p):Gate (some (false,())) p K:=⟨fun q=>absurd q h,fun _=>rfl⟩
theorem nG2 (l:List Int) (hi:Int) (z:Bool):wi l 1 hi z↔wi l 1 hi false:=by
 unfold wi;constructor
 ·exact fun h=>⟨fun j hj=>⟨⟨(h.1 j hj).1.1,(h.1 j hj).1.2.1,fun q=>by have:=(h.1 j hj).1.1;omega⟩,(h.1 j hj).2⟩,h.2⟩
 ·exact fun h=>⟨fun j hj=>⟨⟨(h.1 j hj).1.1,(h.1 j hj).1.2.1,fun q=>by have:=(h.1 j hj).1.1;omega⟩,(h.1 j hj).2⟩,h.2⟩
section
variable (f iv ct un wk : Int) (en : Bool) (mo we yd md : List Int) (dy : List Dy) (ho mi se po : List Int)
theorem mI2 (h:jO mo we yd md dy ho mi se po):Gate (bA.f (f,iv,ct,un,wk,en,mo,we,yd,md,dy,ho,mi,se,po,())) (mayP f iv ct un wk en mo we yd md dy ho mi se po) (bA.l8 f iv ct un wk en mo we yd md dy ho mi se po):=by
 obtain⟨h1,h2,h3,h4,h5,h6,h7,h8,h9⟩:=h;have l1t:bA.l1 true f iv ct un wk en mo we yd md dy ho mi se po=some (false,()):=by rw[bA.l1_eq,cond_true]
 have l2t:bA.l2 true f iv ct un wk en mo we yd md dy ho mi se po=some (false,()):=by rw[bA.l2_eq,cond_true]
 have l2f:bA.l2 false f iv ct un wk en mo we yd md dy ho mi se po=bA.l3 f iv ct un wk en mo we yd md dy ho mi se po:=by rw[bA.l2_eq,cond_false]
 have l4t:bA.l4 true f iv ct un wk en mo we yd md dy ho mi se po=some (false,()):=by rw[bA.l4_eq,cond_true]
 have l5t:bA.l5 true f iv ct un wk en mo we yd md dy ho mi se po=some (false,()):=by rw[bA.l5_eq,cond_true]
 have l5f:bA.l5 false f iv ct un wk en mo we yd md dy ho mi se po=bA.l6 f iv ct un wk en mo we yd md dy ho mi se po:=by rw[bA.l5_eq,cond_false]
 have l7t:bA.l7 true f iv ct un wk en mo we yd md dy ho mi se po=some (false,()):=by rw[bA.l7_eq,cond_true]
 have l7f:bA.l7 false f iv ct un wk en mo we yd md dy ho mi se po=bA.l8 f iv ct un wk en mo we yd md dy ho mi se po:=by rw[bA.l7_eq,cond_false]
 have g6:Gate (bA.l6 f iv ct un wk en mo we yd md dy ho mi se po) (∀j,j<dy.length→numd f we dy j) (bA.l8 f iv ct un wk en mo we yd md dy ho mi se po):=by
  rw[bA.l6_eq];obtain⟨b,e1,e2⟩:=gO1 dy (by omega);rw[e1];simp only[qJ2]
  cases b with
  | false=>
   rw[cond_false,l7f];have:∀j,j<dy.length→numd f we dy j:=fun j hj hn=>absurd (e2.2 ⟨j,hj,hn⟩) (by simp)
   exact⟨fun _=>rfl,fun q=>absurd this q⟩
  | true=>
   obtain⟨j,hj,hn⟩:=e2.1 rfl;rw[cond_true];by_cases c2:f=2
   ·simp(disch:=omega)only[ss,l7f];exact⟨fun _=>rfl,fun q=>absurd (fun _ _ _=>.inl c2) q⟩
   ·by_cases c3:f=1
    ·by_cases c4:(we.length:Int)>0
     ·simp(disch:=omega)only[ss,l7t];exact dS fun q=>by rcases q j hj hn with q | q <;> omega
     ·simp(disch:=omega)only[ss,l7f];exact⟨fun _=>rfl,fun q=>absurd (fun _ _ _=>.inr ⟨c3,by omega⟩) q⟩
    ·simp(disch:=omega)only[ss,l7t];exact dS fun q=>by rcases q j hj hn with q | q <;> omega
 have g4:Gate (bA.l4 false f iv ct un wk en mo we yd md dy ho mi se po) (((0<we.length→f=1)∧(0<yd.length → ¬(2≤f∧f≤4))∧(0<md.length→f≠3)) ∧ ∀j,j<dy.length→numd f we dy j) (bA.l8 f iv ct un wk en mo we yd md dy ho mi se po):=by
  have hm:((0<we.length→f=1)∧(0<yd.length → ¬(2≤f∧f≤4)))→Gate (bif decide ((md.length:Int)>0)then(bA.l5 (decide (f=3)) f iv ct un wk en mo we yd md dy ho mi se po)else(bA.l5 false f iv ct un wk en mo we yd md dy ho mi se po)) (((0<we.length→f=1)∧(0<yd.length → ¬(2≤f∧f≤4))∧(0<md.length→f≠3)) ∧ ∀j,j<dy.length→numd f we dy j) (bA.l8 f iv ct un wk en mo we yd md dy ho mi se po):=fun hh=>by
   by_cases c:(md.length:Int)>0
   ·rw[dp c,cond_true];by_cases c2:f=3
    ·rw[dp c2,l5t];exact dS fun q=>q.1.2.2 (by omega) c2
    ·rw[dn c2,l5f];exact g6.iff ⟨fun q=>⟨⟨hh.1,hh.2,fun _=>c2⟩,q⟩,fun q=>q.2⟩
   ·rw[dn c,cond_false,l5f];exact g6.iff ⟨fun q=>⟨⟨hh.1,hh.2,fun x=>by omega⟩,q⟩,fun q=>q.2⟩
  have hy:(0<we.length→f=1)→Gate (bif decide ((yd.length:Int)>0)then(bif decide (f≥2)then(bif decide (f≤4)then(bA.l5 true f iv ct un wk en mo we yd md dy ho mi se po)else(bif decide ((md.length:Int)>0)then(bA.l5 (decide (f=3)) f iv ct un wk en mo we yd md dy ho mi se po)else(bA.l5 false f iv ct un wk en mo we yd md dy ho mi se po)))else(bif decide ((md.length:Int)>0)then(bA.l5 (decide (f=3)) f iv ct un wk en mo we yd md dy ho mi se po)else(bA.l5 false f iv ct un wk en mo we yd md dy ho mi se po)))else(bif decide ((md.length:Int)>0)then(bA.l5 (decide (f=3)) f iv ct un wk en mo we yd md dy ho mi se po)else(bA.l5 false f iv ct un wk en mo we yd md dy ho mi se po))) (((0<we.length→f=1)∧(0<yd.length → ¬(2≤f∧f≤4))∧(0<md.length→f≠3)) ∧ ∀j,j<dy.length→numd f we dy j) (bA.l8 f iv ct un wk en mo we yd md dy ho mi se po):=fun hh=>by
   by_cases c:(yd.length:Int)>0
   ·rw[dp c,cond_true];by_cases c2:f≥2
    ·rw[dp c2,cond_true];by_cases c3:f≤4
     ·rw[dp c3,cond_true,l5t];exact dS fun q=>q.1.2.1 (by omega) ⟨by omega,c3⟩
     ·rw[dn c3,cond_false];exact hm ⟨hh,fun _=>by omega⟩
    ·rw[dn c2,cond_false];exact hm ⟨hh,fun _=>by omega⟩
   ·rw[dn c,cond_false];exact hm ⟨hh,fun x=>by omega⟩
  rw[bA.l4_eq,cond_false];by_cases c:(we.length:Int)>0
  ·rw[dp c,cond_true];by_cases c2:f=1
   ·rw[dp c2,zK2,cond_false];exact hy fun _=>c2
   ·rw[dn c2,jL2,cond_true,l5t];exact dS fun q=>c2 (q.1.1 (by omega))
  ·rw[dn c,cond_false];exact hy fun x=>by omega
 have g3:Gate (bA.l3 f iv ct un wk en mo we yd md dy ho mi se po) (wi mo 1 12 true∧wi we (-53) 53 false∧wi yd (-366) 366 false∧wi md (-31) 31 false∧wi po (-366) 366 false∧wi ho 0 23 true∧wi mi 0 59 true∧wi se 0 59 true∧dwi dy∧(((0<we.length→f=1)∧(0<yd.length → ¬(2≤f∧f≤4))∧(0<md.length→f≠3)) ∧ ∀j,j<dy.length→numd f we dy j)) (bA.l8 f iv ct un wk en mo we yd md dy ho mi se po):=by
  have hlast:∀{q:Prop},Gate (bA.l4 false f iv ct un wk en mo we yd md dy ho mi se po) q (bA.l8 f iv ct un wk en mo we yd md dy ho mi se po)→Gate ((eB.f dy).bind fun t10=>bA.l4 (!t10.1) f iv ct un wk en mo we yd md dy ho mi se po) (dwi dy∧q) (bA.l8 f iv ct un wk en mo we yd md dy ho mi se po):=fun {q} hq=>by
   have:=gI (mM1 dy (by omega)) hq;obtain⟨b,e1,_⟩:=mM1 dy (by omega);rw[e1]at this ⊢;simp only[qJ2]at this ⊢
   cases b with
   | true=>exact this
   | false=>rw[jL2,l4t];exact this
  rw[bA.l3_eq];simp only[l4t];exact gI (pG mo 1 12 true (by omega)) (gI (pG we (-53) 53 false (by omega)) (gI (pG yd (-366) 366 false (by omega)) (gI (pG md (-31) 31 false (by omega)) (gI (pG po (-366) 366 false (by omega)) (gI (pG ho 0 23 true (by omega)) (gI (pG mi 0 59 true (by omega)) (gI (pG se 0 59 true (by omega)) (hlast g4))))))))
 have g3':=g3.iff (q:=nH1 f mo we yd md dy ho mi se po∧(0<we.length→f=1)∧(0<yd.length → ¬(2≤f∧f≤4))∧(0<md.length→f≠3)) (by
  rw[nG2 mo 12 true];unfold nH1;constructor
  ·rintro⟨a1,a2,a3,a4,a5,a6,a7,a8,a9,a10,a11⟩;exact⟨⟨a1,a2,a3,a4,a6,a7,a8,a5,a9,a11⟩,a10⟩
  ·rintro⟨⟨a1,a2,a3,a4,a6,a7,a8,a5,a9,a11⟩,a10⟩
   exact⟨a1,a2,a3,a4,a5,a6,a7,a8,a9,a10,a11⟩)
 have no:¬numP f iv ct un wk en→Gate (some (false,())) (mayP f iv ct un wk en mo we yd md dy ho mi se po) (bA.l8 f iv ct un wk en mo we yd md dy ho mi se po):=fun hn=>dS fun q=>hn q.1
 have yes:numP f iv ct un wk en→Gate (bA.l3 f iv ct un wk en mo we yd md dy ho mi se po) (mayP f iv ct un wk en mo we yd md dy ho mi se po) (bA.l8 f iv ct un wk en mo we yd md dy ho mi se po):=fun hn=>g3'.iff ⟨fun q=>⟨hn,q⟩,fun q=>q.2⟩
 rw[bA.f_eq];dsimp only;by_cases c:1≤f∧f≤7∧1≤iv∧iv≤1000∧0≤ct∧ct≤4096∧0≤wk∧wk≤6
 ·have c':=c;obtain⟨c1,c2,c3,c4,c5,c6,c7,c8⟩:=c;simp(disch:=omega)only[ss,bA.l1_eq,bH.f_eq]
  cases en with
  | true=>
   simp(disch:=omega)only[ss];by_cases d0:ct>0
   ·simp(disch:=omega)only[ss,l2t];exact no fun q=>by have:=(q.2.1 rfl).2;omega
   ·by_cases d1:un ≥ -62135596800
    ·by_cases d2:un<253402300800
     ·simp(disch:=omega)only[ss,l2f];exact yes ⟨c',fun _=>⟨⟨by omega,by omega⟩,by omega⟩,fun q=>by cases q⟩
     ·simp(disch:=omega)only[ss,l2t];exact no fun q=>by have:=(q.2.1 rfl).1;omega
    ·simp(disch:=omega)only[ss,l2t];exact no fun q=>by have:=(q.2.1 rfl).1;omega
  | false=>
   by_cases d0:un=0
   ·simp(disch:=omega)only[ss,l2f];exact yes ⟨c',(fun q=>by cases q),fun _=>d0⟩
   ·simp(disch:=omega)only[ss,l2t];exact no fun q=>d0 (q.2.2 rfl)
 ·have hn:=no fun q=>c q.1
  have hb:∀{p:Prop} [Decidable p] {x:Option (Bool×Unit)},(¬p→Gate x (mayP f iv ct un wk en mo we yd md dy ho mi se po) (bA.l8 f iv ct un wk en mo we yd md dy ho mi se po))→Gate (bif decide p then(some (false,()))else x) (mayP f iv ct un wk en mo we yd md dy ho mi se po) (bA.l8 f iv ct un wk en mo we yd md dy ho mi se po):=fun {p} _ {x} h1=>by
   by_cases hp:p
   ·rw[dp hp,cond_true];exact hn
   ·rw[dn hp,cond_false];exact h1 hp
  rw[l1t];refine hb fun d1=>hb fun d2=>hb fun d3=>hb fun d4=>hb fun d5=>hb fun d6=>hb fun d7=>?_
  have:wk>6:=by omega
  rw[dp this,l1t];exact hn
theorem zQ1 :vA.l5 f iv ct un wk en mo we yd md dy ho mi se po=bA.l8 f iv ct un wk en mo we yd md dy ho mi se po:=by
 have e7:vA.l7 f iv ct un wk en mo we yd md dy ho mi se po=bA.l10 f iv ct un wk en mo we yd md dy ho mi se po:=by rw[vA.l7_eq,bA.l10_eq]
 have e6:∀b,vA.l6 b f iv ct un wk en mo we yd md dy ho mi se po=bA.l9 b f iv ct un wk en mo we yd md dy ho mi se po:=fun b=>by rw[vA.l6_eq,bA.l9_eq,e7]
 rw[vA.l5_eq,bA.l8_eq,e6,e6]
end
theorem aE1 (r:Rl) (h:jO r.2.2.2.2.2.2.1 r.2.2.2.2.2.2.2.1 r.2.2.2.2.2.2.2.2.1 r.2.2.2.2.2.2.2.2.2.1 r.2.2.2.2.2.2.2.2.2.2.1 r.2.2.2.2.2.2.2.2.2.2.2.1 r.2.2.2.2.2.2.2.2.2.2.2.2.1 r.2.2.2.2.2.2.2.2.2.2.2.2.2.1 r.2.2.2.2.2.2.2.2.2.2.2.2.2.2.1):vA.f r=bA.f r:=by obtain⟨f,iv,ct,un,wk,en,mo,we,yd,md,dy,ho,mi,se,po,⟨⟩⟩:=r;have g1:=sV f iv ct un wk en mo we yd md dy ho mi se po h;rw[zQ1]at g1;exact g1.eq (mI2 f iv ct un wk en mo we yd md dy ho mi se po h)
theorem qV (r:Rl) (h:jO r.2.2.2.2.2.2.1 r.2.2.2.2.2.2.2.1 r.2.2.2.2.2.2.2.2.1 r.2.2.2.2.2.2.2.2.2.1 r.2.2.2.2.2.2.2.2.2.2.1 r.2.2.2.2.2.2.2.2.2.2.2.1 r.2.2.2.2.2.2.2.2.2.2.2.2.1 r.2.2.2.2.2.2.2.2.2.2.2.2.2.1 r.2.2.2.2.2.2.2.2.2.2.2.2.2.2.1):∃b,vA.f r=some (b,()):=by
 obtain⟨f,iv,ct,un,wk,en,mo,we,yd,md,dy,ho,mi,se,po,⟨⟩⟩:=r;have g1:=sV f iv ct un wk en mo we yd md dy ho mi se po h;by_cases hp:mayP f iv ct un wk en mo we yd md dy ho mi se po
 ·rw[g1.1 hp,vA.l5_eq];have e7:∃b,vA.l7 f iv ct un wk en mo we yd md dy ho mi se po=some (b,()):=by
   rw[vA.l7_eq];cases decide (f>4)with
   | true=>exact⟨_,rfl⟩
   | false=>exact⟨_,rfl⟩
  have e6:∀c,∃b,vA.l6 c f iv ct un wk en mo we yd md dy ho mi se po=some (b,()):=fun c=>by
   rw[vA.l6_eq]
   cases c with
   | true=>exact⟨_,rfl⟩
   | false=>exact e7
  cases decide ((po.length:Int)>0)with
  | true=>exact e6 _
  | false=>exact e6 _
 ·exact⟨false,g1.2 hp⟩
def yS (y:Int):Bool:=decide (y%4=0)&&(!decide (y%100=0)||decide (y%400=0))
def mlen (y m:Int):Int:=if m=2 then(if yS y=true then 29 else 28)else if m=4∨m=6∨m=9∨m=11 then 30 else if 1≤m∧m≤12 then 31 else 0
def cumT (m:Int):Int:=if m≤1 then 0 else if m=2 then 31 else if m=3 then 59 else if m=4 then 90 else if m=5 then 120 else if m=6 then 151 else if m=7 then 181 else if m=8 then 212 else if m=9 then 243 else if m=10 then 273 else if m=11 then 304 else if m=12 then 334 else 365
def cum (y m:Int):Int:=cumT m+if 3≤m∧yS y=true then 1 else 0
def fst_ (y:Int):Int:=365*(y-1)+(y-1)/4-(y-1)/100+(y-1)/400-719162
theorem tmn {n:Int} (h:0≤n) (k:Int):Int.tmod n k=n%k:=mM2 h
theorem tdn {n:Int} (h:0≤n) (k:Int):Int.tdiv n k=n/k:=Int.tdiv_eq_ediv_of_nonneg h
theorem hG1 (y:Int) (hy:0≤y):mK.f y=some (yS y,()):=by
 rw[mK.f_eq];simp only[tmn hy];unfold yS;by_cases h1:y%4=0
 ·by_cases h2:y%100=0
  ·by_cases h3:y%400=0
   ·simp(disch:=omega)only[ss]
   ·simp(disch:=omega)only[ss]
  ·simp(disch:=omega)only[ss]
 ·simp(disch:=omega)only[ss]
theorem nO1 (y:Int) (hy:0≤y):iJ.f y=some (yS y,()):=by have:=hG1 y hy;rw[mK.f_eq]at this;rw[iJ.f_eq];exact this
theorem bQ (y m:Int) (hy:0≤y):bC.f y m=some (mlen y m,()):=by
 have hL:=hG1 y hy;rw[bC.f_eq];unfold mlen;by_cases h2:m=2
 ·subst h2;simp(disch:=omega)only[ss,bC.l1_eq,hL];cases yS y <;> rfl
 ·rw[if_neg h2];by_cases h4:m=4∨m=6∨m=9∨m=11
  ·rw[if_pos h4];rcases h4 with rfl | rfl | rfl | rfl
   all_goals (simp(disch:=omega)only[ss,bC.l1_eq])
  ·rw[if_neg h4];by_cases hr:1≤m∧m≤12
   ·rw[if_pos hr];have:m=1∨m=3∨m=5∨m=7∨m=8∨m=10∨m=12:=by omega
    rcases this with rfl | rfl | rfl | rfl | rfl | rfl | rfl
    all_goals (simp(disch:=omega)only[ss,bC.l1_eq,bC.l2_eq])
   ·rw[if_neg hr];simp(disch:=omega)only[ss,bC.l1_eq,bC.l2_eq]
theorem kL (y m:Int) (hy:0≤y):dB.f y m=some (mlen y m,()):=by
 have hL:=nO1 y hy;rw[dB.f_eq];unfold mlen;by_cases h2:m=2
 ·subst h2;simp(disch:=omega)only[ss,dB.l1_eq,dB.l2_eq,hL];cases yS y <;> rfl
 ·rw[if_neg h2];by_cases h4:m=4∨m=6∨m=9∨m=11
  ·rw[if_pos h4];rcases h4 with rfl | rfl | rfl | rfl
   all_goals (simp(disch:=omega)only[ss,dB.l1_eq,dB.l2_eq])
  ·rw[if_neg h4];by_cases hr:1≤m∧m≤12
   ·rw[if_pos hr];have:m=1∨m=3∨m=5∨m=7∨m=8∨m=10∨m=12:=by omega
    rcases this with rfl | rfl | rfl | rfl | rfl | rfl | rfl
    all_goals (simp(disch:=omega)only[ss,dB.l1_eq])
   ·rw[if_neg hr];simp(disch:=omega)only[ss,dB.l1_eq,dB.l2_eq]
theorem iQ (y m:Int):0≤mlen y m∧mlen y m≤31∧(0<mlen y m→1≤m∧m≤12):=by
 unfold mlen;split
 ·cases yS y <;> (simp;omega)
 ·split
  ·omega
  ·split <;> omega
theorem vM (y m:Int) (h1:1≤m) (h2:m≤12):cum y (m+1)=cum y m+mlen y m:=by
 have:m=1∨m=2∨m=3∨m=4∨m=5∨m=6∨m=7∨m=8∨m=9∨m=10∨m=11∨m=12:=by omega
 unfold cum mlen cumT;cases yS y <;> (rcases this with rfl | rfl | rfl | rfl | rfl | rfl | rfl | rfl | rfl | rfl | rfl | rfl <;> simp)
theorem iN (y m:Int):0≤cum y m∧cum y m≤366:=by unfold cum cumT;split <;> (try split) <;> (repeat' split) <;> omega
def kM (y m d:Int):Bool:=decide (1≤y)&&decide (y≤9999)&&decide (1≤d)&&decide (d≤mlen y m)
theorem uO1 (y m d:Int):rK.f y m d=some (kM y m d,())∧kI.f y m d=some (kM y m d,()):=by
 rw[rK.f_eq,zO.f_eq,kI.f_eq];unfold kM;by_cases h1:1≤y
 ·have hL:=bQ y m (by omega);have hV:=kL y m (by omega);by_cases h2:y≤9999
  ·by_cases h3:1≤d
   ·simp(disch:=omega)only[ss,hL,hV,ge_iff_le];exact⟨trivial,trivial⟩
   ·simp(disch:=omega)only[ss,hL,hV,ge_iff_le];exact⟨trivial,trivial⟩
  ·simp(disch:=omega)only[ss,ge_iff_le];exact⟨trivial,trivial⟩
 ·simp(disch:=omega)only[ss,ge_iff_le];exact⟨trivial,trivial⟩
theorem nT (y m d:Int) (hy:1≤y) (hy2:y≤10000) (hm:1≤m) (hm2:m≤12) (hd:1≤d) (hd2:d≤31):eG.f y m d=some (fst_ y+d-1+cum y m,()):=by
 rw[eG.f_eq];by_cases h3:m<3
 ·simp(disch:=omega)only[ss,tdn (show 0≤y-1+400 by omega),tdn (show 0≤153*(m+12-3)+2 by omega)]
  congr 2
  unfold fst_ cum cumT;have:m=1∨m=2:=by omega
  rcases this with rfl | rfl
  ·simp;omega
  ·simp;omega
 ·simp(disch:=omega)only[ss,tdn (show 0≤y+400 by omega),tdn (show 0≤153*(m-3)+2 by omega)]
  congr 2
  unfold fst_ cum cumT
  have e:(if 3≤m∧yS y=true then(1:Int)else 0)=y/4-(y-1)/4-(y/100-(y-1)/100)+(y/400-(y-1)/400):=by
   unfold yS;by_cases h1:y%4=0
   ·by_cases h2:y%100=0
    ·by_cases h5:y%400=0
     ·rw[if_pos ⟨by omega,by simp[h1,h2,h5]⟩];omega
     ·rw[if_neg (by simp[h1,h2,h5])];omega
    ·rw[if_pos ⟨by omega,by simp[h1,h2]⟩];omega
   ·rw[if_neg (by simp[h1])];omega
  rw[e];have:m=3∨m=4∨m=5∨m=6∨m=7∨m=8∨m=9∨m=10∨m=11∨m=12:=by omega
  rcases this with rfl | rfl | rfl | rfl | rfl | rfl | rfl | rfl | rfl | rfl
  all_goals (simp;omega)
theorem nW (n k:Int) (hn:0≤n) (hn2:n≤1000000) (hk:0<k) (hk2:k≤1000):vF.f n k=some (n/k,()):=by have h1:0≤n%k:=Int.emod_nonneg n (by omega);have h2:0≤n/k:=Int.ediv_nonneg hn (by omega);have h3:n/k≤n:=Int.ediv_le_self k hn;rw[vF.f_eq,tmn hn,tdn hn];simp(disch:=omega)only[ss]
theorem nK (y:Int) (hy:1≤y) (hy2:y≤10001):bF.f y=some (fst_ y,()):=by rw[bF.f_eq];have hw:w6 (y-1)=y-1:=wr (by omega) (by omega);rw[hw,nW (y-1) 4 (by omega) (by omega) (by omega) (by omega),nW (y-1) 100 (by omega) (by omega) (by omega) (by omega),nW (y-1) 400 (by omega) (by omega) (by omega) (by omega)];simp(disch:=omega)only[ss];rfl
theorem jT (y:Int) (hy:1≤y) (hy2:y≤10001): -1000000≤fst_ y∧fst_ y≤4000000:=by unfold fst_;omega
theorem aY1 (y m:Int) (hy:0≤y) (hm:m≤12):∀(k:Nat) (i n:Int),m-i=k→1≤i → -10000000≤n→n+cum y m-cum y i≤10000000 → -10000000≤n∧n≤10000000→qE.l1 y m n i=some (n+cum y m-cum y i,0,()):=by
 intro k
 induction k with
 | zero=>
  intro i n hk hi h1 h2 h3;have e:i=m:=by omega
  subst e;rw[qE.l1_eq];simp(disch:=omega)only[ss]
  congr 2
  omega
 | succ k ih=>
  intro i n hk hi h1 h2 h3;have hL:=kL y i hy;have hb:=iQ y i;have hc:=vM y i hi (by omega);have hd:=iN y m;have he:=iN y i;have hg:=iN y (i+1);rw[qE.l1_eq];by_cases hn2:n+mlen y i≤10000000
  ·simp(disch:=omega)only[ss,hL];rw[ih (i+1) (n+mlen y i) (by omega) (by omega) (by omega) (by omega) ⟨by omega,hn2⟩]
   congr 2
   omega
  ·-- the bound holds where it is used
   simp(disch:=omega)only[ss,hL];have hm':cum y (i+1)≤cum y m:=by
    have mono:∀(j:Nat) (a:Int),1≤a→a+j≤12→cum y a≤cum y (a+j):=by
     intro j
     induction j with
     | zero=>intro a _ _;simp
     | succ j ihj=>
      intro a ha hj;have:=ihj a ha (by omega);have h5:=vM y (a+j) (by omega) (by omega);have h6:=iQ y (a+j);rw[show a+((j+1:Nat):Int)=a+(j:Int)+1 by omega,h5];omega
    have:=mono k (i+1) (by omega) (by omega);rwa[show i+1+(k:Int)=m by omega]at this
   omega
theorem wG1 (y m d:Int):yL.f y m d=some (if kM y m d=true then(fst_ y+d-1+cum y m,0,())else(0,1,()))∧qE.f y m d=some (if kM y m d=true then(fst_ y+d-1+cum y m,0,())else(0,1,())):=by
 obtain⟨h1,h2⟩:=uO1 y m d;rw[yL.f_eq,qE.f_eq,h1,h2]
 cases hv:kM y m d with
 | false=>exact⟨rfl,rfl⟩
 | true=>
  unfold kM at hv;simp only[tJ2,decide_eq_true_eq]at hv;obtain⟨⟨⟨h3,h4⟩,h5⟩,h6⟩:=hv;have hb:=iQ y m;have hm:=hb.2.2 (by omega);have hN:=nT y m d h3 (by omega) hm.1 hm.2 h5 (by omega);have hF:=nK y h3 (by omega);have hfb:=jT y h3 (by omega);have hcb:=iN y m;have hc1:cum y 1=0:=rfl;obtain⟨k,hk⟩:=yK2 (show 0≤m-1 by omega);have hD:=aY1 y m (by omega) hm.2 k 1 (fst_ y+d-1) hk (by omega) (by omega) (by omega) ⟨by omega,by omega⟩;rw[if_pos rfl];constructor
  ·simp(disch:=omega)only[ss,hN]
  ·simp(disch:=omega)only[ss,hF,hD]
   congr 2
   omega
end Go.GV.YtegmfagkklekaaaGreatDoor
