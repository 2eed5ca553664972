/-
Part of the words that the laws of this seat are proved with: no statement of its own, no conditions.
-/
import Derived.Test.YtidgapgbnlcjgaaGreatDoorY18
import Derived.Lib.ItoaLen
import Derived.Shelf.Strconv.AtoiAll
set_option linter.unusedVariables false
set_option linter.unusedSimpArgs false
namespace Go.GV.YtidgapgbnlcjgaaGreatDoor
def dval :Nat→List UInt8→Nat
 | a,[]=>a
 | a,c::l=>dval (10*a+(c.toNat-48)) l
theorem cI :∀(l m:List UInt8) (a:Nat),dval a (l++m)=dval (dval a l) m
 | [],_,_=>rfl
 | c::l,m,a=>cI l m _
theorem gL1 :∀(l:List UInt8) (a:Nat),a≤dval a l
 | [],_=>oM2 _
 | c::l,a=>cP2 (by omega) (gL1 l _)
def dig (c:UInt8):Prop:=48≤c.toNat∧c.toNat≤57
theorem of48 {d:Nat} (h:d<10):(UInt8.ofNat (48+d)).toNat=48+d:=by rw[UInt8.toNat_ofNat',tP2 (by omega)]
theorem kV :∀(u:Nat),∀c∈Lib.decDigits u,dig c:=by
 intro u
 induction u using Nat.strongRecOn with
 | ind u ih=>
  intro c hc;rw[Lib.decDigits]at hc;by_cases h:u<10
  ·rw[dif_pos h,kN2]at hc;subst hc;unfold dig;rw[of48 h];omega
  ·rw[dif_neg h]at hc;rcases pM2.1 hc with h1 | h1
   ·exact ih (u/10) (by omega) c h1
   ·rw[kN2]at h1;subst h1;unfold dig;rw[of48 (by omega)];omega
theorem uN (u:Nat):dval 0 (Lib.decDigits u)=u:=by
 induction u using Nat.strongRecOn with
 | ind u ih=>
  by_cases h:u<10
  ·have e:Lib.decDigits u=[UInt8.ofNat (48+u)]:=by rw[Lib.decDigits,dif_pos h]
   have h8:=of48 h;rw[e];generalize UInt8.ofNat (48+u)=c at h8;show 10*0+(c.toNat-48)=u;omega
  ·have e:Lib.decDigits u=Lib.decDigits (u/10)++[UInt8.ofNat (48+u%10)]:=by rw[Lib.decDigits,dif_neg h]
   rw[e,cI,ih (u/10) (by omega)];have h8:=of48 (show u%10<10 by omega);generalize UInt8.ofNat (48+u%10)=c at h8;show 10*(u/10)+(c.toNat-48)=u;omega
theorem tP1 (u:Nat):(Lib.decDigits u).length=Lib.nDigits u:=Lib.decDigits_length u
theorem fX1 (u:Nat):0<(Lib.decDigits u).length:=by rw[tP1];exact Lib.nDigits_pos u
theorem D_ne (u:Nat):Lib.decDigits u≠[]:=fun h=>by have:=fX1 u;rw[h]at this;simp at this
theorem jI (u:Nat):(Lib.decDigits u).length≤9↔u≤999999999:=by
 rw[tP1];have up:∀(k u:Nat),u<10 ^ (k+1)→Lib.nDigits u≤k+1:=by
  intro k
  induction k with
  | zero=>intro u h;rw[Lib.nDigits_small (by simpa using h)];omega
  | succ k ih=>
   intro u h;by_cases hu:u<10
   ·rw[Lib.nDigits_small hu];omega
   ·rw[Lib.nDigits_big hu];have:=ih (u/10) (by rw[Nat.pow_succ]at h;omega);omega
 have dn:∀(k u:Nat),10 ^ k≤u→k+1≤Lib.nDigits u:=by
  intro k
  induction k with
  | zero=>intro u h;exact Lib.nDigits_pos u
  | succ k ih=>
   intro u h;have h1:0<10 ^ k:=Nat.pow_pos (by decide);rw[Nat.pow_succ]at h;rw[Lib.nDigits_big (by omega)];have:=ih (u/10) (by omega);omega
 constructor
 ·intro h;refine Nat.le_of_not_lt fun hu=>?_
  have:=dn 9 u (by omega);omega
 ·intro h;exact up 8 u (by omega)
theorem gF1 (u:Nat) (h:u<18446744073709551616):(Lib.decDigits u).length≤20:=by rw[tP1];exact Lib.nDigits_le20 u h
theorem pM1 (l:List UInt8):∀(a:Nat),(∀c∈l,dig c)→dval a l<1844674407370955161→Lib.parseUint10 a l = .ok (dval a l):=by
 induction l with
 | nil=>intro a _ _;rfl
 | cons c l ih=>
  intro a hd hv;have hc:=hd c mM2;have h1:=gL1 l (10*a+(c.toNat-48));have hv:dval (10*a+(c.toNat-48)) l<1844674407370955161:=hv;show _=Lib.NumEnd.ok (dval (10*a+(c.toNat-48)) l);unfold dig at hc;have e:a*10+(c.toNat-48)=10*a+(c.toNat-48):=by omega
  rw[Lib.parseUint10,if_pos hc,if_neg (by omega),if_neg (by omega),e];exact ih _ (fun x hx=>hd x (lM2 _ hx)) hv
def isN (s:List UInt8) (n:Int):Prop:=s=Lib.itoa n ∧ -999999999≤n∧n≤999999999
theorem lG {n:Int} (h:n<0):Lib.itoa n=45::Lib.decDigits n.natAbs:=by unfold Lib.itoa;rw[if_pos h]
theorem mF {n:Int} (h:¬n<0):Lib.itoa n=Lib.decDigits n.toNat:=by unfold Lib.itoa;rw[if_neg h]
theorem nY {u:Nat} {c:UInt8} {r:List UInt8} (h:Lib.decDigits u=c::r):c.toNat≠43∧c.toNat≠45:=by have:=kV u c (by rw[h];exact mM2);unfold dig at this;omega
theorem kZ1 {n m:Int} (h:Lib.itoa n=Lib.itoa m):n=m:=by
 by_cases h1:n<0
 ·by_cases h2:m<0
  ·rw[lG h1,lG h2]at h;have:=congrArg (dval 0) (uO2 h).2;rw[uN,uN]at this;omega
  ·rw[lG h1,mF h2]at h;exact absurd rfl (nY h.symm).2
 ·by_cases h2:m<0
  ·rw[mF h1,lG h2]at h;exact absurd rfl (nY h).2
  ·rw[mF h1,mF h2]at h;have:=congrArg (dval 0) h;rw[uN,uN]at this;omega
theorem vS {n:Int} (h0: -999999999≤n) (h1:n≤999999999):Lib.atoiAll (Lib.itoa n) = .ok n:=by
 by_cases hn:n<0
 ·rw[lG hn];unfold Lib.atoiAll Lib.parseMag;simp only;have e45:UInt8.toNat 45=45:=rfl;simp only[e45,or_true,if_true,not_true,false_and,if_false,true_and];rw[if_neg (D_ne _),pM1 _ 0 (kV _) (by rw[uN];omega),uN];simp only;rw[if_neg (by omega)]
  congr 1
  omega
 ·rw[mF hn]
  cases hD:Lib.decDigits n.toNat with
  | nil=>exact absurd hD (D_ne _)
  | cons c r=>
   obtain⟨q1,q2⟩:=nY hD;unfold Lib.atoiAll Lib.parseMag;simp only;rw[if_neg (show ¬(c.toNat=43∨c.toNat=45)from fun q=>q.elim q1 q2),if_neg (by simp),←hD,pM1 _ 0 (kV _) (by rw[uN];omega),uN];simp only;rw[if_neg (by omega),if_neg (fun q=>q2 q.1),if_neg q2]
   congr 1
   omega
theorem iO (n:Int):(((Lib.itoa n).length:Int)-(if n<0 then 1 else 0)≤9) ↔ -999999999≤n∧n≤999999999:=by
 by_cases hn:n<0
 ·rw[lG hn,if_pos hn,kM2];have:=jI n.natAbs;omega
 ·rw[mF hn,if_neg hn];have:=jI n.toNat;omega
theorem lR1 {n:Int} (h0: -9223372036854775808≤n) (h1:n≤9223372036854775807):(Lib.itoa n).length≤21:=by
 by_cases hn:n<0
 ·rw[lG hn,kM2];have:=gF1 n.natAbs (by omega);omega
 ·rw[mF hn];have:=gF1 n.toNat (by omega);omega
open Go.Proofs
theorem szS (l:List UInt8):(mkS l).size=l.length:=by rw[iU,B_mk]
theorem eK {a b:List UInt8} (h:mkS a=mkS b):a=b:=by have:=congrArg B h;simpa[B_mk]using this
theorem hM1 {d:Nat} (h:d<10):pK [IntKind.u8.wrap ((48:Int)+(d:Int))]=mkS [UInt8.ofNat (48+d)]:=by refine lI ?_;rw[hX1,B_mk,Go.IntWalk.u8_in _ ⟨by omega,by omega⟩];simp only[nN2,qP2];rw[show((48:Int)+(d:Int)).toNat=48+d by omega]
theorem td10 {n:Int} (h:0≤n):Int.tdiv n 10=n/10:=Int.tdiv_eq_ediv_of_nonneg h
theorem tm10 {n:Int} (h:0≤n):Int.tmod n 10=n%10:=dP2 h
theorem oJ2 {n:Int} (h:n≤0):Int.tdiv n 10 = -((-n)/10):=by
 have:Int.tdiv n 10 = -Int.tdiv (-n) 10:=by rw[Int.neg_tdiv,Int.neg_neg]
 rw[this,td10 (by omega)]
theorem sK2 {n:Int} (h:n≤0):Int.tmod n 10 = -((-n)%10):=by
 have:Int.tmod n 10 = -Int.tmod (-n) 10:=by rw[Int.neg_tmod,Int.neg_neg]
 rw[this,tm10 (by omega)]
theorem nJ1 :∀(u:Nat),(u:Int)≤9223372036854775807→dE.f (u:Int)=some (mkS (Lib.decDigits u),()):=by
 intro u
 induction u using Nat.strongRecOn with
 | ind u ih=>
  intro hu;rw[dE.f_eq,Lib.decDigits];by_cases h:u<10
  ·rw[dif_pos h];simp(disch:=omega)only[ss];rw[hM1 h]
  ·rw[dif_neg h];have e1:Int.tdiv (u:Int) 10=((u/10:Nat):Int):=by rw[td10 (by omega)];omega
   have e2:Int.tmod (u:Int) 10=((u%10:Nat):Int):=by rw[tm10 (by omega)];omega
   have h1:=ih (u/10) (by omega) (by omega);have h2:=gF1 (u/10) (by omega);simp(disch:=omega)only[ss,e1,e2,h1,szS,hM1 (show u%10<10 by omega),gM2];rw[cE]
theorem dR (n:Int) (h0: -9223372036854775808≤n) (h1:n≤9223372036854775807):dE.f n=some (mkS (Lib.itoa n),()):=by
 by_cases hn:n<0
 ·rw[lG hn,Lib.decDigits,dE.f_eq];have e1:Int.tdiv n 10 = -((n.natAbs/10:Nat):Int):=by rw[oJ2 (by omega)];omega
  have e2:Int.tmod n 10 = -((n.natAbs%10:Nat):Int):=by rw[sK2 (by omega)];omega
  have e3:(48:Int) - -((n.natAbs%10:Nat):Int)=48+((n.natAbs%10:Nat):Int):=by omega
  have hm:(⟨#[45]⟩:ByteArray)=mkS [45]:=rfl;by_cases h:n.natAbs<10
  ·have e4:n.natAbs/10=0:=by omega
   rw[dif_pos h];simp(disch:=omega)only[ss,e1,e2,e3,hm,szS,hM1 (show n.natAbs%10<10 by omega),gM2];rw[cE,tP2 h];rfl
  ·have e5:w6 (0-w6 (-((n.natAbs/10:Nat):Int)))=((n.natAbs/10:Nat):Int):=by simp(disch:=omega)only[ss];omega
   have h1:=nJ1 (n.natAbs/10) (by omega);have h2:=gF1 (n.natAbs/10) (by omega);have e6:¬(-((n.natAbs/10:Nat):Int))=0:=by omega
   rw[dif_neg h];rw[e1,e2,e5,h1];simp(disch:=omega)only[ss,e3,hm,szS,hM1 (show n.natAbs%10<10 by omega),gM2,cE,cM2];rfl
 ·obtain⟨u,rfl⟩:=gN2 (show 0≤n by omega);rw[nJ1 u h1,mF hn];rfl
theorem lK (n:Int) (h0: -9223372036854775808≤n) (h1:n≤9223372036854775807):nD.f n=some (mkS (Lib.itoa n),()):=by rw[nD.f_sem];show uF2 n=_;unfold uF2;rw[dp h0,dp h1,cond_true,cond_true,vM1 h0 h1];rfl
theorem cR (s:List UInt8) (hs:s.length≤1000000):sG.f (mkS s)=some ((gK (mkS s)).1,(gK (mkS s)).2,()):=by rw[sG.f_sem];show fG2 (mkS s)=_;unfold fG2;rw[dp (by rw[szS];omega),cond_true]
theorem yC1 (s:ByteArray): -9223372036854775808≤(gK s).1∧(gK s).1≤9223372036854775807:=by
 unfold gK
 cases h:Lib.atoiAll s.data.toList with
 | ok v=>exact Lib.atoiAll_bounds h
 | range=>exact Lib.atoiSat_bounds _
 | _=>exact⟨by show(-9223372036854775808:Int)≤0;omega,by show(0:Int)≤9223372036854775807;omega⟩
theorem dP (s:List UInt8) (hs:s.length≤1000000):aF.f (mkS s) ⟨#[45]⟩=some (mkS (if s.head?=some 45 then s.tail else s),()):=by
 have hp:iD.f (mkS s) ⟨#[45]⟩=some (decide (s.head?=some 45),()):=zX s 45;rw[aF.f_eq,wF.f_eq,hp];have hz:(⟨#[45]⟩:ByteArray).size=1:=rfl;by_cases h:s.head?=some 45
 ·have h1:0<s.length:=by cases s with
   | nil=>simp at h
   | cons _ _=>simp
  simp(disch:=omega)only[ss,hz,szS,if_pos h,xN2];rw[show(mkS s).extract 1 s.length=mkS s.tail from lI (by rw[←szS s,qL,B_mk,B_mk,List.drop_one])]
 ·simp(disch:=omega)only[ss,if_neg h]
theorem nL (s:List UInt8) (hs:s.length≤1000000):
  (∃n,isN s n∧zE.f (mkS s)=some (n,true,()))∨((∀n,¬isN s n) ∧ ∃n,zE.f (mkS s)=some (n,false,())):=by
 have hr:=yC1 (mkS s);have hA:=cR s hs;rw[zE.f_eq,hA];simp only[eM2];have small:∀n,isN s n→gK (mkS s)=(n,true):=by rintro n ⟨rfl,h0,h1⟩;unfold gK;rw[show(mkS (Lib.itoa n)).data.toList=Lib.itoa n from rfl,vS h0 h1]
 generalize hp:gK (mkS s)=p at hr small;obtain⟨n,b⟩:=p;simp only at hr small ⊢
 cases b with
 | false=>exact .inr ⟨fun m hm=>(by have:=small m hm;cases this),n,rfl⟩
 | true=>
  have hI:=lK n hr.1 hr.2;have hT:=dP s hs;rw[cond_true,hI];simp only[eM2,mE];by_cases he:mkS (Lib.itoa n)=mkS s
  ·have he':=eK he;rw[dp he,cond_true,hT];simp only[eM2,szS]
   have hl:((if s.head?=some 45 then s.tail else s).length:Int)=(Lib.itoa n).length-(if n<0 then 1 else 0):=by
    rw[←he'];by_cases hn:n<0
    ·rw[lG hn,if_pos hn,if_pos (show(45::Lib.decDigits n.natAbs).head?=some 45 from rfl)];simp
    ·rw[mF hn,if_neg hn,if_neg]
     ·simp
     ·intro q
      cases hD:Lib.decDigits n.toNat with
      | nil=>exact D_ne _ hD
      | cons c r=>
       rw[hD]at q;simp at q;have:=(nY hD).2;rw[q]at this;exact this rfl
   rw[hl];by_cases h9: -999999999≤n∧n≤999999999
   ·rw[dp ((iO n).2 h9)];exact .inl ⟨n,⟨he'.symm,h9⟩,rfl⟩
   ·rw[dn fun q=>h9 ((iO n).1 q)];refine .inr ⟨fun m hm=>?_,n,rfl⟩;have:=small m hm;simp only[Prod.mk.injEq,and_true]at this;subst this;exact h9 hm.2
  ·rw[dn he,cond_false];refine .inr ⟨fun m hm=>?_,n,rfl⟩;have:=small m hm;simp only[Prod.mk.injEq,and_true]at this;subst this;exact he (by rw[hm.1])
theorem pS1 (s:List UInt8) (m:Int) (h0: -9223372036854775808≤m) (h1:m≤9223372036854775807):yA.l6 (mkS s) m=some (m,decide (s=Lib.itoa m),()):=by rw[yA.l6_eq,dR m h0 h1];simp only[eM2,mE];rw[show decide (mkS (Lib.itoa m)=mkS s)=decide (s=Lib.itoa m)from decide_eq_decide.2 ⟨fun h=>(eK h).symm,fun h=>by rw[←h]⟩]
def aP1 (s:List UInt8) (r:Option (Int×Bool×Unit)):Prop:=∃m b,r=some (m,b,()) ∧ -9223372036854775808≤m∧m≤9223372036854775807∧(b=true→s=Lib.itoa m)
theorem gJ2 (s:List UInt8) (neg:Bool) (d:List UInt8) (hd:d.length≤19):∀(k i v:Nat),d.length-i=k→i≤d.length→v≤9223372036854775808 →
  aP1 s (yA.l4 (mkS s) neg (mkS d) (-(v:Int)) i) ∧
  ((∀c∈d.drop i,dig c)→dval v (d.drop i)≤999999999→yA.l4 (mkS s) neg (mkS d) (-(v:Int)) i=yA.l6 (mkS s) (if neg=true then -(dval v (d.drop i):Int)else dval v (d.drop i))):=by
 have fail:∀m:Int,m=0→aP1 s (some (m,false,())):=fun m hm=>⟨m,false,rfl,by omega,by omega,by simp⟩
 have good:∀m:Int,-9223372036854775808≤m→m≤9223372036854775807→aP1 s (yA.l6 (mkS s) m):=fun m h0 h1=>⟨m,_,pS1 s m h0 h1,h0,h1,fun h=>of_decide_eq_true h⟩
 intro k
 induction k with
 | zero=>
  intro i v hk hi hv;have e:i=d.length:=by omega
  subst e;rw[yA.l4_eq,wN2];simp(disch:=omega)only[ss,szS]
  cases neg with
  | true=>
   simp(disch:=omega)only[ss];exact⟨good _ (by omega) (by omega),fun _ _=>rfl⟩
  | false=>
   simp(disch:=omega)only[ss];by_cases hm:(-(v:Int)) = -9223372036854775808
   ·simp(disch:=omega)only[ss];refine⟨fail 0 rfl,fun _ hq=>absurd hm ?_⟩;have hq:v≤999999999:=hq;clear hm hv good fail;omega
   ·simp(disch:=omega)only[ss];have e2:(0:Int) - -(v:Int)=v:=by omega
    rw[e2];exact⟨good _ (by omega) (by omega),fun _ _=>rfl⟩
 | succ k ih=>
  intro i v hk hi hv;have hlt:i<d.length:=by omega
  have hbt:bt (mkS d) (i:Int)=((d.getD i 0).toNat:Int):=kI (mkS d) i;have hc:=xJ2 (d.getD i 0);rw[yA.l4_eq,nC 0 hlt];simp(disch:=omega)only[ss,szS,hbt];by_cases c1:((d.getD i 0).toNat:Int)-48<0
  ·simp(disch:=omega)only[ss,yA.l5_eq];refine⟨fail 0 rfl,fun hq=>?_⟩;have:=hq _ mM2;unfold dig at this;omega
  ·by_cases c2:((d.getD i 0).toNat:Int)-48>9
   ·simp(disch:=omega)only[ss,yA.l5_eq];refine⟨fail 0 rfl,fun hq=>?_⟩;have:=hq _ mM2;unfold dig at this;omega
   ·have e1:Int.tdiv (-9223372036854775808+(((d.getD i 0).toNat:Int)-48)) 10 = -((9223372036854775808-(((d.getD i 0).toNat:Int)-48))/10):=by
     rw[oJ2 (by omega)]
     congr 2
     omega
    simp(disch:=omega)only[ss,e1];by_cases c3: -(v:Int) < -((9223372036854775808-(((d.getD i 0).toNat:Int)-48))/10)
    ·simp(disch:=omega)only[ss,yA.l5_eq];refine⟨fail 0 rfl,fun hq hv2=>?_⟩;have h1:=gL1 (d.drop (i+1)) (10*v+((d.getD i 0).toNat-48));have hv2:dval (10*v+((d.getD i 0).toNat-48)) (d.drop (i+1))≤999999999:=hv2;omega
    ·have e2:(10:Int) * -(v:Int)-(((d.getD i 0).toNat:Int)-48) = -((10*v+((d.getD i 0).toNat-48):Nat):Int):=by omega
     simp(disch:=omega)only[ss,yA.l5_eq];rw[e2];obtain⟨h1,h2⟩:=ih (i+1) (10*v+((d.getD i 0).toNat-48)) (by omega) (by omega) (by omega);exact⟨h1,fun hq hv2=>h2 (fun c hc=>hq c (lM2 _ hc)) hv2⟩
theorem eY1 (s:List UInt8) (neg:Bool) (d:List UInt8):aP1 s (yA.l2 (mkS s) neg (mkS d)) ∧
  ((∀c∈d,dig c)→0<d.length→d.length≤19→dval 0 d≤999999999→yA.l2 (mkS s) neg (mkS d)=yA.l6 (mkS s) (if neg=true then -(dval 0 d:Int)else dval 0 d)):=by
 have fail:aP1 s (some (0,false,())):=⟨0,false,rfl,by omega,by omega,by simp⟩
 rw[yA.l2_eq];by_cases c1:(d.length:Int)<1
 ·simp(disch:=omega)only[ss,szS,yA.l3_eq];exact⟨fail,fun _ h=>by omega⟩
 ·by_cases c2:(d.length:Int)>19
  ·simp(disch:=omega)only[ss,szS,yA.l3_eq];exact⟨fail,fun _ _ h=>by omega⟩
  ·simp(disch:=omega)only[ss,szS,yA.l3_eq];obtain⟨h1,h2⟩:=gJ2 s neg d (by omega) _ 0 0 rfl (iM2 _) (by omega);rw[tM2,Int.neg_zero]at h1 h2;rw[bN2]at h2;exact⟨h1,fun q1 _ _ q2=>h2 q1 q2⟩
theorem aM1 (s:List UInt8):aP1 s (yA.f (mkS s)) ∧ ∀n,isN s n→yA.f (mkS s)=some (n,true,()):=by
 have hbt:bt (mkS s) 0=((s.getD 0 0).toNat:Int):=kI (mkS s) 0
 cases s with
 | nil=>
  have h0:=eY1 [] false [];rw[yA.f_eq];simp(disch:=omega)only[ss,szS,xM2,tM2,yA.l1_eq];refine⟨h0.1,fun n hn=>?_⟩;obtain⟨h1,_⟩:=hn;unfold Lib.itoa at h1;split at h1
  ·cases h1
  ·exact absurd h1.symm (D_ne _)
 | cons c r=>
  have hg:(c::r).getD 0 0=c:=rfl;rw[hg]at hbt;rw[yA.f_eq];by_cases hc:(c.toNat:Int)=45
  ·have e1:(mkS (c::r)).extract 1 (r.length+1)=mkS r:=lI (by rw[show r.length+1=(mkS (c::r)).size by rw[szS];rfl,qL,B_mk,B_mk];rfl);have h0:=eY1 (c::r) true r;have h45:c=45:=(bE2 c 45 (by decide)).1 (show(c.toNat:Int)=((45:Nat):Int)from hc);simp(disch:=omega)only[ss,szS,kM2,hbt,yA.l1_eq,e1];refine⟨h0.1,fun n hn=>?_⟩;obtain⟨h1,h2,h3⟩:=hn;by_cases hneg:n<0
   ·rw[lG hneg]at h1;have hr:=(uO2 h1).2;have h9:=(jI n.natAbs).2 (by omega);rw[h0.2 (by rw[hr];exact kV _) (by rw[hr];exact fX1 _) (by rw[hr];omega) (by rw[hr,uN];omega),if_pos rfl,hr,uN,pS1 _ _ (by omega) (by omega)];have e2: -((n.natAbs:Nat):Int)=n:=by omega
    rw[e2,dp (by rw[lG hneg,h45])]
   ·rw[mF hneg]at h1;exact absurd (by rw[h45];rfl) (nY h1.symm).2
  ·have h0:=eY1 (c::r) false (c::r);simp(disch:=omega)only[ss,szS,kM2,hbt,yA.l1_eq];refine⟨h0.1,fun n hn=>?_⟩;obtain⟨h1,h2,h3⟩:=hn;by_cases hneg:n<0
   ·rw[lG hneg]at h1;have:=(uO2 h1).1;subst this;exact absurd rfl hc
   ·rw[mF hneg]at h1;have h9:=(jI n.toNat).2 (by omega);rw[h0.2 (by rw[h1];exact kV _) (by rw[h1];exact fX1 _) (by rw[h1];omega) (by rw[h1,uN];omega),if_neg (by simp),pS1 _ _ (by omega) (by rw[h1,uN];omega)];have e2:((dval 0 (c::r):Nat):Int)=n:=by rw[h1,uN];omega
    rw[e2,dp (by rw[mF hneg,h1])]
theorem vJ (s:List UInt8) (hs:s.length≤1000000):
  (∃n,isN s n∧gE.f (mkS s)=some (n,true,()))∨((∀n,¬isN s n) ∧ ∃n,gE.f (mkS s)=some (n,false,())):=by
 obtain⟨⟨m,b,h1,h2,h3,h4⟩,h5⟩:=aM1 s;by_cases hn:∃n,isN s n
 ·obtain⟨n,hn⟩:=hn;have h6:=h5 n hn;have h7:=(iO n).2 hn.2;rw[←hn.1]at h7;refine .inl ⟨n,hn,?_⟩;rw[gE.f_eq,h6];by_cases c1:n<0
  ·rw[if_pos c1]at h7;simp(disch:=omega)only[ss,szS]
  ·rw[if_neg c1]at h7;simp(disch:=omega)only[ss,szS]
 ·refine .inr ⟨fun n h=>hn ⟨n,h⟩,m,?_⟩;rw[gE.f_eq,h1]
  cases b with
  | false=>
   by_cases c1:m<0
   ·simp(disch:=omega)only[ss]
   ·simp(disch:=omega)only[ss]
  | true=>
   have he:=h4 rfl;have h7:¬((s.length:Int)-(if m<0 then 1 else 0)≤9):=fun q=>hn ⟨m,he,(iO m).1 (by rw[←he];exact q)⟩
   by_cases c1:m<0
   ·rw[if_pos c1]at h7;simp(disch:=omega)only[ss,szS]
   ·rw[if_neg c1]at h7;simp(disch:=omega)only[ss,szS]
def chr (l:List UInt8) (i:Nat):Nat:=(l.getD i 0).toNat
def plB (c:Nat):Bool:=decide (32≤c)&&decide (c≤126)
def bL (l:List UInt8) (i:Nat):Bool:=decide (chr l i=10)||(decide (chr l i=13)&&(decide (i+1<l.length)&&decide (chr l (i+1)=10)))
def bad (l:List UInt8) (i:Nat):Bool:=(!plB (chr l i) && !bL l i)||(decide (i=0)&&decide (chr l i=32))
theorem lV (l:List UInt8) (i:Nat):(I l).getD i 0=(chr l i:Int):=wJ2 l i
theorem dN1 (c:Nat):zK.f (c:Int)=some (plB c,()):=by
 rw[zK.f_eq];by_cases h:32≤c
 ·simp(disch:=omega)only[ss,plB,Bool.true_and];by_cases h2:c≤126 <;> simp(disch:=omega)only[ss]
 ·simp(disch:=omega)only[ss,plB,Bool.false_and]
theorem iT (l:List UInt8) (i:Nat) (hi:i<l.length) (hl:l.length<4611686018427387904):
  aC.l1 (I l) (I l) (l.length:Int) i=if bad l i=true then some ((i:Int),())else aC.l1 (I l) (I l) (l.length:Int) ((i+1:Nat):Int):=by
 obtain⟨X,hX⟩:∃X,X=(if bad l i=true then some ((i:Int),())else aC.l1 (I l) (I l) (l.length:Int) ((i+1:Nat):Int)):=⟨_,rfl⟩
 rw[←hX];have h3:∀b:Bool,b=bad l i→aC.l3 (I l) i (I l) (l.length:Int) i b=X:=by
  rintro b rfl;rw[aC.l3_eq,hX];cases bad l i
  ·simp(disch:=omega)only[ss,yN2,xN2];rfl
  ·rfl
 have key:∀e:Bool,e=bL l i→aC.l2 (I l) i (chr l i) e (I l) (l.length:Int) i=X:=by
  rintro e rfl;rw[aC.l2_eq,dN1];simp only[eM2];cases hp:plB (chr l i)with
  | true=>
   by_cases h0:i=0
   ·by_cases hc:chr l i=32
    ·simp(disch:=omega)only[ss];exact h3 true (by unfold bad;simp(disch:=omega)only[ss,hp])
    ·simp(disch:=omega)only[ss];exact h3 false (by unfold bad;simp(disch:=omega)only[ss,hp])
   ·simp(disch:=omega)only[ss];exact h3 false (by unfold bad;simp(disch:=omega)only[ss,hp])
  | false=>
   cases he:bL l i with
   | false=>
    simp(disch:=omega)only[ss];exact h3 true (by unfold bad;simp(disch:=omega)only[ss,hp,he])
   | true=>
    by_cases h0:i=0
    ·by_cases hc:chr l i=32
     ·simp(disch:=omega)only[ss];exact h3 true (by unfold bad;simp(disch:=omega)only[ss,hp,he])
     ·simp(disch:=omega)only[ss];exact h3 false (by unfold bad;simp(disch:=omega)only[ss,hp,he])
    ·simp(disch:=omega)only[ss];exact h3 false (by unfold bad;simp(disch:=omega)only[ss,hp,he])
 rw[aC.l1_eq];simp(disch:=omega)only[ss,dH,lV];by_cases h10:chr l i=10
 ·simp(disch:=omega)only[ss];exact key true (by unfold bL;simp(disch:=omega)only[ss,Bool.true_or])
 ·simp(disch:=omega)only[ss];by_cases h13:chr l i=13
  ·simp(disch:=omega)only[ss];by_cases hn:i+1<l.length
   ·have hw:((i:Int)+1).toNat=i+1:=by omega
    simp(disch:=omega)only[ss,hw,lV];by_cases hc:chr l (i+1)=10
    ·simp(disch:=omega)only[ss];exact key true (by unfold bL;simp(disch:=omega)only[ss,Bool.true_and,Bool.or_true])
    ·simp(disch:=omega)only[ss];exact key false (by unfold bL;simp(disch:=omega)only[ss,Bool.true_and,Bool.or_false])
   ·simp(disch:=omega)only[ss];exact key false (by unfold bL;simp(disch:=omega)only[ss,Bool.true_and,Bool.false_and,Bool.or_false])
  ·simp(disch:=omega)only[ss];exact key false (by unfold bL;simp(disch:=omega)only[ss,Bool.false_and,Bool.or_false])
theorem uO1 {l:List UInt8} (hl:l.length<4611686018427387904) (h:∀i,i<l.length→bad l i=false):aC.f (I l)=some (-1,()):=by
 rw[aC.f_eq,dH]
 have:=eH (fun i:Nat=>aC.l1 (I l) (I l) (l.length:Int) i) (k:=l.length) (i:=0) (iM2 _) fun j _ hj=>by rw[iT l j hj hl,if_neg (by rw[h j hj];decide)]
 refine this.trans ?_;show aC.l1 (I l) (I l) (l.length:Int) ((l.length:Nat):Int)=_;rw[aC.l1_eq];simp(disch:=omega)only[ss]
theorem iT1 {l:List UInt8} (hl:l.length<4611686018427387904) {k:Nat} (hk:k<l.length) (hb:bad l k=true) (h:∀i,i<k→bad l i=false):aC.f (I l)=some ((k:Int),()):=by
 rw[aC.f_eq,dH]
 have:=eH (fun i:Nat=>aC.l1 (I l) (I l) (l.length:Int) i) (k:=k) (i:=0) (iM2 _) fun j _ hj=>by rw[iT l j (by omega) hl,if_neg (by rw[h j hj];decide)]
 refine this.trans ?_;show aC.l1 (I l) (I l) (l.length:Int) ((k:Nat):Int)=_;rw[iT l k hk hl,if_pos hb]
def yF (s:List UInt8):List UInt8:=if s.getLast?=some 13 then s.dropLast else s
def glue (acc:List (List UInt8)) (t:List UInt8):List (List UInt8):=if t.head?=some 32 then acc.dropLast++[acc.getLast?.getD []++t.tail]else acc++[t]
def lJ (acc raw:List (List UInt8)):List (List UInt8):=raw.foldl (fun acc s=>glue acc (yF s)) acc
def uE (l:List UInt8):List (List UInt8):=if(segs 10 l).getLast?=some []then(segs 10 l).dropLast else segs 10 l
def totF (l:List (List UInt8)):Nat:=(l.map List.length).sum
theorem qJ (a b:List (List UInt8)):totF (a++b)=totF a+totF b:=by simp[totF]
theorem pJ (a:List UInt8) (b:List (List UInt8)):totF (a::b)=a.length+totF b:=by simp[totF]
theorem vV (s:List UInt8):(yF s).length≤s.length:=by
 unfold yF;split
 ·simp
 ·exact oM2 _
theorem yX {l:List UInt8} (h:10∉l):uE l=if l=[]then []else [l]:=by unfold uE;rw[dK h];by_cases hl:l=[] <;> simp[hl]
theorem sQ {a b:List UInt8} (h:10∉a):uE (a++10::b)=a::uE b:=by
 unfold uE;rw[yJ h];have hne:=wZ 10 b
 cases hs:segs 10 b with
 | nil=>exact absurd hs hne
 | cons x xs=>
  rw[List.getLast?_cons_cons];split
  ·rw[List.dropLast_cons_of_ne_nil (by simp)]
  ·rfl
theorem bX (c:UInt8):∀l,totF (segs c l)+(segs c l).length=l.length+1
 | []=>by simp[segs,totF]
 | b::l=>by
  have ih:=bX c l;have hne:=wZ c l;simp only[segs];split
  ·rw[pJ];simp;omega
  ·cases hs:segs c l with
   | nil=>exact absurd hs hne
   | cons x xs=>
    rw[hs]at ih;rw[pJ]at ih ⊢;simp at ih ⊢;omega
theorem gT (l:List UInt8):totF (uE l)+(uE l).length≤l.length+1:=by
 have h:=bX 10 l;unfold uE;split
 ·rename_i hl;rcases gP2 (segs 10 l)with he | ⟨x,y,he⟩
  ·rw[he]at hl;cases hl
  ·rw[uP2]at he;rw[he]at h ⊢;rw[List.dropLast_concat];rw[qJ]at h;simp at h;omega
 ·omega
theorem aA1 (acc:List (List UInt8)) (b:List UInt8):(((acc++[b]).map mkS).getD acc.length ByteArray.empty)=mkS b:=by simp[dM2]
theorem yO1 (raw:List (List UInt8)) (i:Nat) (hi:i<raw.length) (acc:List (List UInt8)) (hz:totF acc+(raw.getD i []).length<100000) (hl:acc.length<100000) (hr:raw.length<100000) (hacc:acc=[]→(yF (raw.getD i [])).head?≠some 32):
  mC.l2 (raw.map mkS) (raw.length:Int) i (acc.map mkS)=mC.l2 (raw.map mkS) (raw.length:Int) ((i+1:Nat):Int) ((glue acc (yF (raw.getD i []))).map mkS):=by
 obtain⟨X,hX⟩:∃X,X=mC.l2 (raw.map mkS) (raw.length:Int) ((i+1:Nat):Int) ((glue acc (yF (raw.getD i []))).map mkS):=⟨_,rfl⟩
 rw[←hX,mC.l2_eq];have hz2:=vV (raw.getD i []);simp(disch:=omega)only[ss,hM2];rw[cM mkS raw i [] _ hi,show(⟨#[13]⟩:ByteArray)=mkS [13]from rfl,show(⟨#[32]⟩:ByteArray)=mkS [32]from rfl,kA1 _ _ (by omega)];simp(disch:=omega)only[ss];rw[show(if(raw.getD i []).getLast?=some 13 then(raw.getD i []).dropLast else raw.getD i [])=yF (raw.getD i [])from rfl,zF1];generalize yF (raw.getD i [])=t at *;by_cases ht:t.head?=some 32
 ·rw[dp ht];rcases gP2 acc with rfl | ⟨a,b,he⟩
  ·exact absurd ht (hacc rfl)
  ·rw[uP2]at he;subst he;have hlen:(a++[b]).length=a.length+1:=by simp
   obtain⟨t',rfl⟩:∃t',t=32::t':=by cases t with
    | nil=>cases ht
    | cons x y=>simp at ht;exact⟨y,by rw[ht]⟩
   rw[qJ,pJ]at hz;have hlt:(32::t').length=t'.length+1:=rfl;have e1:(mkS (32::t')).extract 1 (mkS (32::t')).size=mkS t':=lI (by rw[qL];rfl);have hw:w6 (((a.length+1:Nat):Int)-1)=(a.length:Int):=by rw[wr (by omega) (by omega)];omega
   rw[hlen,Nat.add_sub_cancel,e1,aA1,cE];simp(disch:=omega)only[ss,szS,hlt];rw[hX];unfold glue;rw[if_pos ht];simp[List.set_append_right]
 ·rw[dn ht];have hlim:wC=17179869184:=rfl;simp(disch:=omega)only[ss,kM2,xM2];rw[hX];unfold glue;rw[if_neg ht];simp
theorem mD1 (acc:List (List UInt8)) (t:List UInt8):totF (glue acc t)≤totF acc+t.length∧(glue acc t).length≤acc.length+1∧glue acc t≠[]:=by
 unfold glue;split
 ·rcases gP2 acc with rfl | ⟨a,b,he⟩
  ·simp[totF]
  ·rw[uP2]at he;subst he;rw[List.dropLast_concat,qJ,qJ];simp[totF];omega
 ·rw[qJ];simp[totF]
theorem lA2 (raw:List (List UInt8)) (hr:raw.length<50000):∀(k i:Nat) (acc:List (List UInt8)),raw.length-i=k→i≤raw.length→totF acc+totF (raw.drop i)<50000→acc.length+k<60000→(acc=[] → ∀s,raw[i]?=some s→(yF s).head?≠some 32) →
  mC.l2 (raw.map mkS) (raw.length:Int) i (acc.map mkS)=some ((lJ acc (raw.drop i)).map mkS,0,0,()):=by
 intro k
 induction k with
 | zero=>
  intro i acc hk hi _ _ _;have e:i=raw.length:=by omega
  subst e;rw[mC.l2_eq,wN2];simp(disch:=omega)only[ss];rfl
 | succ k ih=>
  intro i acc hk hi ht hl hacc;have hlt:i<raw.length:=by omega
  have hg:raw[i]?=some (raw.getD i []):=by simp[dM2,hlt]
  have hd:=nR raw i [] hlt;rw[hd,pJ]at ht;rw[yO1 raw i hlt acc (by omega) (by omega) (by omega) (fun h=>hacc h _ hg)];obtain⟨g1,g2,g3⟩:=mD1 acc (yF (raw.getD i []));have g4:=vV (raw.getD i []);rw[ih (i+1) (glue acc (yF (raw.getD i []))) (by omega) (by omega) (by omega) (by omega) (fun h=>absurd h g3),hd];rfl
theorem tQ {l:List UInt8} (h:4096<l.length):mC.f (I l)=some ([],0,3,()):=by rw[mC.f_eq,dH];simp(disch:=omega)only[ss]
theorem xT {l:List UInt8} (hl:l.length≤4096) {k:Nat} (hk:k<l.length) (hb:bad l k=true) (h:∀i,i<k→bad l i=false):mC.f (I l)=some ([],(k:Int),4,()):=by rw[mC.f_eq,dH,iT1 (by omega) hk hb h];simp(disch:=omega)only[ss]
theorem oW {l:List UInt8} (h:∀i,i<l.length→bad l i=false):∀s,(uE l)[0]?=some s→(yF s).head?≠some 32:=by
 have key:∀s r,l=s++r→(yF s).head?≠some 32:=by
  intro s r e hh;have h1:s.head?=some 32:=by
   unfold yF at hh;split at hh
   ·cases s with
    | nil=>cases hh
    | cons x y=>cases y with
     | nil=>cases hh
     | cons z w=>simpa using hh
   ·exact hh
  cases s with
  | nil=>cases h1
  | cons x y=>
   simp at h1;subst h1;have:=h 0 (by rw[e];simp);rw[e]at this;simp[bad,chr]at this
 intro s hs;rcases uI (c:=10) (l:=l)with h1 | ⟨a,b,h2,h3⟩
 ·rw[yX h1]at hs;by_cases hl:l=[]
  ·simp[hl]at hs
  ·simp[hl]at hs;exact key s [] (by simp[hs])
 ·rw[h2,sQ h3]at hs;simp at hs;exact key s (10::b) (by rw[h2,hs])
theorem iL {l:List UInt8} (hl:l.length≤4096) (h:∀i,i<l.length→bad l i=false):mC.f (I l)=some ((lJ [] (uE l)).map mkS,0,0,()):=by
 have hne:=wZ 10 l;have htot:=bX 10 l;have hpt:=gT l;have hfin:mC.l1 ((uE l).map mkS)=some ((lJ [] (uE l)).map mkS,0,0,()):=by rw[mC.l1_eq,hM2];have:=lA2 (uE l) (by omega) (uE l).length 0 [] rfl (iM2 _) (by rw[bN2];simp only[totF,qP2,List.sum_nil];unfold totF at hpt;omega) (by simp;omega) (fun _=>oW h);rw[bN2]at this;exact this
 rw[mC.f_eq,dH,uO1 (by omega) h,wF1,show(⟨#[10]⟩:ByteArray)=mkS [10]from rfl,show(⟨#[]⟩:ByteArray)=mkS []from rfl];simp(disch:=omega)only[ss];rw[uJ l (by omega)];rcases gP2 (segs 10 l)with he | ⟨x,y,he⟩
 ·exact absurd he hne
 ·rw[uP2]at he
  have hp:uE l=if y=[]then x else x++[y]:=by unfold uE;rw[he];simp
  have hlen:((x++[y]).map mkS).length=x.length+1:=by simp
  rw[he]at htot ⊢;rw[qJ]at htot;simp at htot;have hw:w6 (((x.length+1:Nat):Int)-1)=(x.length:Int):=by rw[wr (by omega) (by omega)];omega
  simp(disch:=omega)only[ss,hlen,hw];rw[aA1,mE];by_cases hy:y=[]
  ·subst hy;rw[if_pos rfl]at hp;rw[hp]at hfin ⊢;simp(disch:=omega)only[ss];have e3:(((x++[([]:List UInt8)]).map mkS).take x.length:List ByteArray)=x.map mkS:=by simp
   rw[e3];exact hfin
  ·rw[if_neg hy]at hp;rw[hp]at hfin ⊢;rw[dn (fun e=>hy (by have:=congrArg B e;simpa[B_mk]using this))];exact hfin
theorem zN (l:List UInt8):4096<l.length∨(l.length≤4096 ∧ ∃k,k<l.length∧bad l k=true ∧ ∀i,i<k→bad l i=false)∨(l.length≤4096 ∧ ∀i,i<l.length→bad l i=false):=by
 by_cases h:4096<l.length
 ·exact .inl h
 ·rcases oS (bad l) l.length with h1 | ⟨k,h1,h2,h3⟩
  ·exact .inr (.inr ⟨by omega,h1⟩)
  ·exact .inr (.inl ⟨by omega,k,h1,h2,h3⟩)
def allP (l:List UInt8):Prop:=∀c∈l,33≤c.toNat∧c.toNat≤126
theorem bS1 {l:List UInt8} (h:allP l):l.head?≠some 32:=fun e=>by have:=h 32 (List.mem_of_head? e);exact absurd this.1 (by decide)
theorem rD1 (l:List UInt8) (i:Nat) (hi:i<l.length) (hl:l.length<4611686018427387904):
  cA.l1 (I l) i=if bad l i=true then some ([],(i:Int),4,())else cA.l1 (I l) ((i+1:Nat):Int):=by
 obtain⟨X,hX⟩:∃X,X=(if bad l i=true then some (([]:List ByteArray),(i:Int),(4:Int),())else cA.l1 (I l) ((i+1:Nat):Int)):=⟨_,rfl⟩
 rw[←hX];have h3:∀b:Bool,b=bad l i→cA.l3 (I l) i b=X:=by
  rintro b rfl;rw[cA.l3_eq,hX];cases bad l i
  ·simp(disch:=omega)only[ss,yN2,xN2];rfl
  ·rfl
 have key:∀e:Bool,e=(plB (chr l i)||bL l i)→cA.l2 (I l) i e=X:=by
  rintro e rfl;rw[cA.l2_eq];simp only[dH,lV,cO2];cases hp:(plB (chr l i)||bL l i)with
  | true=>
   have hb:bad l i=(decide (i=0)&&decide (chr l i=32)):=by unfold bad;cases h1:plB (chr l i) <;> cases h2:bL l i <;> simp_all
   by_cases h0:i=0
   ·by_cases hc:chr l i=32
    ·simp(disch:=omega)only[ss];exact h3 true (by rw[hb];simp(disch:=omega)only[ss])
    ·simp(disch:=omega)only[ss];exact h3 false (by rw[hb];simp(disch:=omega)only[ss])
   ·simp(disch:=omega)only[ss];exact h3 false (by rw[hb];simp(disch:=omega)only[ss])
  | false=>
   have hb:bad l i=true:=by unfold bad;cases h1:plB (chr l i) <;> cases h2:bL l i <;> simp_all
   simp(disch:=omega)only[ss];exact h3 true hb.symm
 rw[cA.l1_eq]
 have htail:∀b:Bool,plB (chr l i)=false→(bif decide ((chr l i:Int)=10)then cA.l2 (I l) i true else
   bif decide ((chr l i:Int)=13)then(bif decide ((i:Int)+1<(l.length:Int))then cA.l2 (I l) i (decide ((chr l (i+1):Int)=10))else cA.l2 (I l) i false)else cA.l2 (I l) i false)=X:=by
  intro _ hp;by_cases h10:chr l i=10
  ·simp(disch:=omega)only[ss];exact key true (by unfold bL;simp(disch:=omega)only[ss,hp])
  ·simp(disch:=omega)only[ss];by_cases h13:chr l i=13
   ·simp(disch:=omega)only[ss];by_cases hn:i+1<l.length
    ·simp(disch:=omega)only[ss];by_cases hc:chr l (i+1)=10
     ·simp(disch:=omega)only[ss];exact key true (by unfold bL;simp(disch:=omega)only[ss,hp])
     ·simp(disch:=omega)only[ss];exact key false (by unfold bL;simp(disch:=omega)only[ss,hp])
    ·simp(disch:=omega)only[ss];exact key false (by unfold bL;simp(disch:=omega)only[ss,hp])
   ·simp(disch:=omega)only[ss];exact key false (by unfold bL;simp(disch:=omega)only[ss,hp])
 have hw:((i:Int)+1).toNat=i+1:=by omega
 by_cases h32:32≤chr l i
 ·by_cases h126:chr l i≤126
  ·simp(disch:=omega)only[ss,dH,lV];exact key true (by unfold plB;simp(disch:=omega)only[ss])
  ·have hp:plB (chr l i)=false:=by unfold plB;simp(disch:=omega)only[ss]
   have:=htail true hp;by_cases h10:chr l i=10
   ·omega
   ·by_cases h13:chr l i=13
    ·omega
    ·simp(disch:=omega)only[dp,dn,cond_true,cond_false]at this;simp(disch:=omega)only[ss,dH,lV];exact this
 ·have hp:plB (chr l i)=false:=by unfold plB;simp(disch:=omega)only[ss]
  have:=htail true hp;by_cases h10:chr l i=10
  ·simp(disch:=omega)only[dp,dn,cond_true,cond_false]at this;simp(disch:=omega)only[ss,dH,lV];exact this
  ·by_cases h13:chr l i=13
   ·by_cases hn:i+1<l.length
    ·simp(disch:=omega)only[dp,dn,cond_true,cond_false]at this;simp(disch:=omega)only[dH,lV,wr,hw,dp,dn,cond_true,cond_false,cO2];exact this
    ·simp(disch:=omega)only[dp,dn,cond_true,cond_false]at this;simp(disch:=omega)only[ss,dH,lV];exact this
   ·simp(disch:=omega)only[dp,dn,cond_true,cond_false]at this;simp(disch:=omega)only[ss,dH,lV];exact this
theorem gI2 (l:List UInt8) (i:Nat) (t:List UInt8) (acc:List (List UInt8)) (hi:i≤l.length) (hl:l.length≤4096) (ht:t.length≤4096) (hz:totF acc≤5000) (hla:acc.length≤5000) (hacc:acc=[]→t.head?≠some 32):
  cA.l9 (I l) i (mkS t) (decide (t.head?=some 32)) (acc.map mkS)=cA.l4 (I l) ((i+1:Nat):Int) ((i+1:Nat):Int) ((glue acc t).map mkS):=by
 rw[cA.l9_eq];have hlim:wC=17179869184:=rfl;by_cases h:t.head?=some 32
 ·rw[dp h];rcases gP2 acc with rfl | ⟨a,b,he⟩
  ·exact absurd h (hacc rfl)
  ·rw[uP2]at he;subst he;have hlen:(a++[b]).length=a.length+1:=by simp
   obtain⟨t',rfl⟩:∃t',t=32::t':=by cases t with
    | nil=>cases h
    | cons x y=>simp at h;exact⟨y,by rw[h]⟩
   rw[qJ,pJ]at hz;have hlt:(32::t').length=t'.length+1:=rfl;have e1:(mkS (32::t')).extract 1 (t'.length+1)=mkS t':=lI (by rw[←hlt,←szS,qL];rfl);rw[hM2,hlen];have hsb:(mkS b).size=b.length:=szS b;have hst:(mkS t').size=t'.length:=szS t';have hss:(mkS (32::t')).size=t'.length+1:=szS _;simp only[cond_true,zR1,Nat.add_sub_cancel,hss];simp(disch:=omega)only[ss,Nat.add_sub_cancel];simp only[e1,aA1];simp(disch:=omega)only[ss,hsb,hst,cE,yN2,xN2];unfold glue;rw[if_pos h];simp[List.set_append_right]
 ·rw[dn h];simp(disch:=omega)only[ss,hM2,kM2,xM2,yN2,xN2];unfold glue;rw[if_neg h];simp
theorem zJ1 (l:List UInt8) (a b:Nat):pK (((I l).take b).drop a)=mkS ((l.take b).drop a):=by rw[uH2,kH2,wF1]
theorem eM1 (l:List UInt8) (i f tq:Nat) (acc:List (List UInt8)) (hf:f≤tq) (hto:tq≤l.length) (hi:i≤l.length) (hl:l.length≤4096) (hz:totF acc≤5000) (hla:acc.length≤5000) (hacc:acc=[]→((l.take tq).drop f).head?≠some 32):
  cA.l8 (I l) f i tq (acc.map mkS)=cA.l4 (I l) ((i+1:Nat):Int) ((i+1:Nat):Int) ((glue acc ((l.take tq).drop f)).map mkS):=by
 have hsz:((l.take tq).drop f).length=tq-f:=by simp;omega
 rw[←gI2 l i _ acc hi hl (by omega) hz hla hacc,cA.l8_eq];simp only[cO2,zJ1,dH,szS];generalize (l.take tq).drop f=t at *
 cases t with
 | nil=>
  simp at hsz;simp(disch:=omega)only[ss,xM2];rfl
 | cons c r=>
  have hb:bt (mkS (c::r)) 0=(c.toNat:Int):=rfl;have hc:((c.toNat:Int)=32)↔c=32:=bE2 c 32 (by decide);rw[hb];by_cases h:c=32
  ·rw[dp (hc.2 h),dp (show(c::r).head?=some 32 by rw[h];rfl)];simp(disch:=omega)only[ss,kM2]
  ·rw[dn (fun e=>h (hc.1 e)),dn (show ¬(c::r).head?=some 32 from fun e=>h (by simpa using e))];simp(disch:=omega)only[ss,kM2]
theorem nN1 (l:List UInt8) (f:Nat) (acc:List (List UInt8)) (hl:l.length≤4096) {i k:Nat} (hik:i≤k) (hk:k≤l.length) (h:∀j,i≤j→j<k→chr l j≠10):cA.l4 (I l) f i (acc.map mkS)=cA.l4 (I l) f k (acc.map mkS):=by
 refine eH (fun i:Nat=>cA.l4 (I l) f i (acc.map mkS)) hik fun j h1 h2=>?_
 have hc:=h j h1 h2;show cA.l4 (I l) f (j:Nat) (acc.map mkS)=_;rw[cA.l4_eq,lV];simp(disch:=omega)only[ss,dH];rw[cA.l5_eq];simp(disch:=omega)only[ss,yN2,xN2]
theorem gU1 (l:List UInt8) (hl:l.length≤4096) (hlast:l.getLast?≠some 13):∀(n f:Nat) (acc:List (List UInt8)),l.length-f=n→f≤l.length→totF acc+(l.length-f)≤4500→acc.length+(l.length-f)≤4500→(acc=[] → ∀s,(uE (l.drop f))[0]?=some s→(yF s).head?≠some 32) →
  cA.l4 (I l) f f (acc.map mkS)=some ((lJ acc (uE (l.drop f))).map mkS,0,0,()):=by
 intro n
 induction n using Nat.strongRecOn with
 | ind n ih=>
  intro f acc hn hf hz hla hacc;have hend:∀(y:List (List UInt8)),cA.l4 (I l) ((l.length+1:Nat):Int) ((l.length+1:Nat):Int) (y.map mkS)=some (y.map mkS,0,0,()):=by intro y;rw[cA.l4_eq];simp(disch:=omega)only[ss,dH]
  rcases uI (c:=10) (l:=l.drop f)with h | ⟨a,b,h,ha⟩
  ·have hno:∀j,f≤j→j<l.length→chr l j≠10:=by
    intro j h1 h2 hc;refine h ?_;have:l.getD j 0=10:=UInt8.toNat_inj.1 hc;rw[dM2,nM2 h2]at this;have e:l[j]=10:=this;rw[←e];have:l[j]=(l.drop f)[j-f]'(by simp;omega):=by simp[show f+(j-f)=j by omega]
    rw[this];exact mO2 _
   rw[nN1 l f acc hl hf (oM2 _) hno,cA.l4_eq,dH];simp(disch:=omega)only[ss];rw[cA.l5_eq];by_cases he:f=l.length
   ·simp(disch:=omega)only[ss];have:=hend acc;rw[yN2,xN2]at this;have h0:l.drop f=[]:=by rw[he];simp
    rw[h0];have hfl:(f:Int)=(l.length:Int):=by omega
    have e2:cA.l4 (I l) f ((l.length:Int)+1) (acc.map mkS)=some (acc.map mkS,0,0,()):=by rw[cA.l4_eq];simp(disch:=omega)only[ss,dH]
    rw[e2];simp[uE,segs,lJ]
   ·simp(disch:=omega)only[ss];rw[cA.l6_eq,dH];simp(disch:=omega)only[ss];rw[cA.l7_eq];simp(disch:=omega)only[ss];have htk:(l.take l.length).drop f=l.drop f:=by rw[fO2]
    have hpc:uE (l.drop f)=[l.drop f]:=by rw[yX h,if_neg];intro e;have:=congrArg List.length e;simp at this;omega
    have htr:yF (l.drop f)=l.drop f:=by
     unfold yF;rw[if_neg];rw[List.getLast?_drop];split
     ·simp
     ·exact hlast
    rw[eM1 l l.length f l.length acc hf (oM2 _) (oM2 _) hl (by omega) (by omega) (by
     intro h0;rw[htk,←htr]
     exact hacc h0 _ (by rw[hpc];rfl)),htk,hend,hpc]
    simp only[lJ,List.foldl_cons,List.foldl_nil,htr]
  ·have hla2:f+a.length<l.length:=by have:=congrArg List.length h;simp at this;omega
   have hat:∀j,j<a.length→l.getD (f+j) 0=a.getD j 0:=by
    intro j hj;have:(l.drop f).getD j 0=(a++10::b).getD j 0:=by rw[h]
    rw[tH _ _ _ _ hj]at this;rw[←this];simp[dM2]
   have hat10:l.getD (f+a.length) 0=10:=by
    have:(l.drop f).getD a.length 0=(a++10::b).getD a.length 0:=by rw[h]
    simp[dM2]at this;simp[dM2,this]
   have hno:∀j,f≤j→j<f+a.length→chr l j≠10:=by
    intro j h1 h2 hc;have e:=hat (j-f) (by omega);rw[show f+(j-f)=j by omega]at e;have h10:a.getD (j-f) 0=10:=by rw[←e];exact UInt8.toNat_inj.1 hc
    refine ha ?_;rw[dM2,nM2 (by omega)]at h10;have e2:a[j-f]=10:=h10;rw[←e2];exact mO2 _
   have hb:l.drop (f+a.length+1)=b:=by rw[Nat.add_assoc,←eP2,h];simp[iP2]
   have hta:(l.take (f+a.length)).drop f=a:=by
    have:(l.take (f+a.length)).drop f=(l.drop f).take a.length:=by rw[List.drop_take];congr 1;omega
    rw[this,h];simp
   have hc10:chr l (f+a.length)=10:=by unfold chr;rw[hat10];rfl
   have hblen:b.length=l.length-(f+a.length+1):=by rw[←hb];simp
   have hpc:uE (l.drop f)=a::uE b:=by rw[h,sQ ha]
   have hrec:∀acc2,(totF acc2≤totF acc+a.length)→acc2.length≤acc.length+1→acc2≠[]→cA.l4 (I l) ((f+a.length+1:Nat):Int) ((f+a.length+1:Nat):Int) (acc2.map mkS)=some ((lJ acc2 (uE b)).map mkS,0,0,()):=by intro acc2 g1 g2 g3;have:=ih (l.length-(f+a.length+1)) (by omega) (f+a.length+1) acc2 rfl (by omega) (by omega) (by omega) (fun e=>absurd e g3);rw[hb]at this;exact this
   rw[nN1 l f acc hl (Nat.le_add_right f a.length) (by omega) hno,cA.l4_eq,lV];simp only[dH];simp(disch:=omega)only[ss,hc10];rw[cA.l5_eq];simp(disch:=omega)only[ss];rw[cA.l6_eq];simp only[dH];obtain⟨g1,g2,g3⟩:=mD1 acc (yF a);have g4:=vV a;have hfin:∀X,X=cA.l4 (I l) ((f+a.length+1:Nat):Int) ((f+a.length+1:Nat):Int) ((glue acc (yF a)).map mkS)→X=some ((lJ acc (uE (l.drop f))).map mkS,0,0,()):=by rintro X rfl;rw[hrec _ (by omega) g2 g3,hpc];rfl
   have hhd:acc=[]→(yF a).head?≠some 32:=fun e=>hacc e a (by rw[hpc];rfl)
   by_cases hae:a.length=0
   ·simp(disch:=omega)only[ss];rw[cA.l7_eq];have ha0:a=[]:=wM2 hae;have htr:yF a=a:=by rw[ha0];rfl
    refine hfin _ ?_;have:=eM1 l (f+a.length) f (f+a.length) acc (by omega) (by omega) (by omega) hl (by omega) (by omega) (by rw[hta,←htr];exact hhd);rw[hta]at this;rw[htr];exact this
   ·have hw:((f:Int)+(a.length:Int)-1)=((f+a.length-1:Nat):Int):=by omega
    have hlastc:chr l (f+a.length-1)=(a.getD (a.length-1) 0).toNat:=by have:=hat (a.length-1) (by omega);rw[show f+(a.length-1)=f+a.length-1 by omega]at this;unfold chr;rw[this]
    have hgl:a.getLast?=some (a.getD (a.length-1) 0):=by rw[List.getLast?_eq_getElem?,dM2,nM2 (by omega)];rfl
    simp(disch:=omega)only[ss,yN2,hw,lV];rw[cA.l7_eq];by_cases h13:chr l (f+a.length-1)=13
    ·have htr:yF a=a.dropLast:=by
      unfold yF;rw[if_pos];rw[hgl]
      congr 1
      exact UInt8.toNat_inj.1 (by rw[←hlastc];exact h13)
     simp(disch:=omega)only[ss,hw];refine hfin _ ?_;have htd:(l.take (f+a.length-1)).drop f=a.dropLast:=by
      have:(l.take (f+a.length-1)).drop f=(l.drop f).take (a.length-1):=by rw[List.drop_take];congr 1;omega
      rw[this,h,hP2 (by omega),List.dropLast_eq_take]
     have:=eM1 l (f+a.length) f (f+a.length-1) acc (by omega) (by omega) (by omega) hl (by omega) (by omega) (by rw[htd,←htr];exact hhd);rw[htd]at this;rw[htr];rw[yN2]at this;exact this
    ·have htr:yF a=a:=by
      unfold yF;rw[if_neg];rw[hgl];intro e;refine h13 ?_;rw[hlastc];have:a.getD (a.length-1) 0=13:=by simpa using e
      rw[this];rfl
     simp(disch:=omega)only[ss];refine hfin _ ?_;have:=eM1 l (f+a.length) f (f+a.length) acc (by omega) (by omega) (by omega) hl (by omega) (by omega) (by rw[hta,←htr];exact hhd);rw[hta]at this;rw[htr];rw[yN2]at this;exact this
theorem kW1 {l:List UInt8} (h:∀i,i<l.length→bad l i=false):l.getLast?≠some 13:=by
 intro e;have hne:l≠[]:=by rintro rfl;cases e
 have hpos:=hO2.2 hne;have hc:chr l (l.length-1)=13:=by rw[List.getLast?_eq_getElem?]at e;unfold chr;rw[dM2,e];rfl
 have:=h (l.length-1) (by omega);unfold bad plB bL at this;rw[hc]at this;have h1:¬(l.length-1+1<l.length):=by omega
 rw[dn h1]at this;simp at this
theorem rV1 (l:List UInt8):cA.f (I l)=mC.f (I l):=by
 rcases zN l with h | ⟨h,k,h1,h2,h3⟩ | ⟨h,h1⟩
 ·rw[tQ h,cA.f_eq,dH];simp(disch:=omega)only[ss]
 ·rw[xT h h1 h2 h3,cA.f_eq,dH];simp(disch:=omega)only[ss]
  have:=eH (fun i:Nat=>cA.l1 (I l) i) (k:=k) (i:=0) (iM2 _) fun j _ hj=>by rw[rD1 l j (by omega) (by omega),if_neg (by rw[h3 j hj];decide)]
  refine this.trans ?_;show cA.l1 (I l) ((k:Nat):Int)=_;rw[rD1 l k h1 (by omega),if_pos h2]
 ·rw[iL h h1,cA.f_eq,dH];simp(disch:=omega)only[ss]
  have:=eH (fun i:Nat=>cA.l1 (I l) i) (k:=l.length) (i:=0) (iM2 _) fun j _ hj=>by rw[rD1 l j (by omega) (by omega),if_neg (by rw[h1 j hj];decide)]
  refine this.trans ?_;show cA.l1 (I l) ((l.length:Nat):Int)=_;rw[cA.l1_eq,dH];simp(disch:=omega)only[ss];have h4:=gU1 l h (kW1 h1) l.length 0 [] rfl (iM2 _) (by simp[totF];omega) (by simp;omega) (fun _=>by rw[bN2];exact oW h1);rw[bN2]at h4;exact h4
theorem aD2 {a b:List UInt8} {c:UInt8}:chr (a++c::b) a.length=c.toNat:=by simp[chr]
theorem oR {a b:List UInt8} {j:Nat} (h:j<a.length):chr (a++b) j=chr a j:=by unfold chr;rw[tH _ _ _ _ h]
theorem rL1 {a:List UInt8} {c:UInt8} (h:c∉a) {j:Nat} (hj:j<a.length):chr a j≠c.toNat:=by intro e;refine h ?_;have:a.getD j 0=c:=UInt8.toNat_inj.1 e;rw[dM2,nM2 hj]at this;have e2:a[j]=c:=this;rw[←e2];exact mO2 hj
theorem qQ1 {s:List UInt8} (hs:s.length<4611686018427387904) (h:58∉s):aB.f (mkS s)=some (mkS [],mkS [],mkS [],false,()):=by
 rw[aB.f_eq]
 have:=eH (fun i:Nat=>aB.l1 (mkS s) i) (k:=s.length) (i:=0) (iM2 _) fun j _ hj=>by have hb:bt (mkS s) (j:Int)=(chr s j:Int):=rfl;have hc:=rL1 h hj;have hc2:chr s j≠58:=hc;show aB.l1 (mkS s) (j:Nat)=_;rw[aB.l1_eq,hb];simp(disch:=omega)only[ss,szS,yN2,xN2]
 refine this.trans ?_;show aB.l1 (mkS s) ((s.length:Nat):Int)=_;rw[aB.l1_eq];simp(disch:=omega)only[ss,szS];rfl
def mayB (s:List UInt8):Bool:=(s.all fun c=>plB c.toNat)&&(!s.isEmpty && !decide (s.head?=some 32))
theorem eO1 (s:List UInt8) (i:Nat) (hi:i<s.length) (h:(s.take i).all (fun c=>plB c.toNat)=true) (hc:plB (chr s i)=true):(s.take (i+1)).all (fun c=>plB c.toNat)=true:=by
 rw[List.take_add_one,List.all_append,h];have:s[i]?=some (s.getD i 0):=by simp[dM2,hi]
 rw[this];simp only[Option.toList,iO2,List.all_nil,rP2,Bool.true_and];exact hc
theorem cH1 (s:List UInt8) (i:Nat) (hi:i<s.length) (hc:plB (chr s i)=false):s.all (fun c=>plB c.toNat)=false:=by
 rw[List.all_eq_false]
 exact⟨s.getD i 0,by rw[dM2,nM2 hi];exact mO2 hi,by
  have:plB (s.getD i 0).toNat=false:=hc;rw[this]
  exact Bool.false_ne_true⟩
theorem tD1 (s:List UInt8) (hs:s≠[]):decide (s.head?=some 32)=decide ((chr s 0:Int)=32):=by
 cases s with
 | nil=>exact absurd rfl hs
 | cons x y=>
  refine decide_eq_decide.2 ?_;have:=bE2 x 32 (by omega);simp only[List.head?_cons,Option.some.injEq];exact this.symm
theorem rS1 (s:List UInt8) (hs:s.length<4611686018427387904):nH.f (mkS s)=some (mayB s,()):=by
 have key:∀(k i:Nat),s.length-i=k→i≤s.length→(s.take i).all (fun c=>plB c.toNat)=true→nH.l1 (mkS s) (s.length:Int) (i:Int)=some (mayB s,()):=by
  intro k
  induction k with
  | zero=>
   intro i hk hi h;have e:i=s.length:=by omega
   subst e;rw[fO2]at h;rw[nH.l1_eq,mE,szS];unfold mayB;rw[h]
   cases s with
   | nil=>simp;rfl
   | cons x y=>
    have hne:mkS (x::y)≠(⟨#[]⟩:ByteArray):=fun e=>by have:=congrArg B e;cases this
    have hb:bt (mkS (x::y)) 0=(chr (x::y) 0:Int):=rfl;rw[tD1 _ (by simp),hb,dn hne];have:(x::y).length=y.length+1:=rfl;simp(disch:=omega)only[ss];rfl
  | succ k ih=>
   intro i hk hi h;have hlt:i<s.length:=by omega
   have hb:bt (mkS s) (i:Int)=(chr s i:Int):=rfl;rw[nH.l1_eq,hb,dN1];cases hc:plB (chr s i)with
   | true=>
    simp(disch:=omega)only[ss,szS];exact ih (i+1) (by omega) (by omega) (eO1 s i hlt h hc)
   | false=>
    simp(disch:=omega)only[ss,szS];unfold mayB;rw[cH1 s i hlt hc];rfl
 rw[nH.f_eq,szS];exact key s.length 0 rfl (iM2 _) rfl
theorem jM1 (L:List (List UInt8)) (hl:L.length<100000) (hs:∀s∈L,s.length<100000) {k:Nat} (hk:k<L.length) (hb:mayB (L.getD k [])=false) (h:∀i,i<k→mayB (L.getD i [])=true):mB.f (L.map mkS)=some ([],4,()):=by
 rw[mB.f_eq,hM2];have hlen:∀i,i<L.length→(L.getD i []).length<100000:=fun i hi=>hs _ (by rw[dM2,nM2 hi];exact mO2 hi)
 have:=eH (fun i:Nat=>mB.l1 (L.map mkS) (L.map mkS) (L.length:Int) i) (k:=k) (i:=0) (iM2 _) fun j _ hj=>by
  have hlt:j<L.length:=by omega
  have:=hlen j hlt;show mB.l1 (L.map mkS) (L.map mkS) (L.length:Int) (j:Nat)=_;rw[mB.l1_eq];simp(disch:=omega)only[ss,hM2];rw[cM mkS L j [] _ hlt,rS1 _ (by omega),h j hj];simp(disch:=omega)only[ss,yN2,xN2]
 refine this.trans ?_;have:=hlen k hk;show mB.l1 (L.map mkS) (L.map mkS) (L.length:Int) (k:Nat)=_;rw[mB.l1_eq];simp(disch:=omega)only[ss,hM2];rw[cM mkS L k [] _ hk,rS1 _ (by omega),hb];simp(disch:=omega)only[ss]
theorem cJ1 (L:List (List UInt8)) (hl:L.length<100000) (hs:∀s∈L,s.length<100000) (h:∀i,i<L.length→mayB (L.getD i [])=true):mB.f (L.map mkS)=mB.l2 (L.map mkS) (L.length:Int) 0 []:=by
 rw[mB.f_eq,hM2];have hlen:∀i,i<L.length→(L.getD i []).length<100000:=fun i hi=>hs _ (by rw[dM2,nM2 hi];exact mO2 hi)
 have:=eH (fun i:Nat=>mB.l1 (L.map mkS) (L.map mkS) (L.length:Int) i) (k:=L.length) (i:=0) (iM2 _) fun j _ hj=>by have:=hlen j hj;show mB.l1 (L.map mkS) (L.map mkS) (L.length:Int) (j:Nat)=_;rw[mB.l1_eq];simp(disch:=omega)only[ss,hM2];rw[cM mkS L j [] _ hj,rS1 _ (by omega),h j hj];simp(disch:=omega)only[ss,yN2,xN2]
 refine this.trans ?_;show mB.l1 (L.map mkS) (L.map mkS) (L.length:Int) (L.length:Nat)=_;rw[mB.l1_eq];simp(disch:=omega)only[ss,hM2]
theorem uB2 (L:List (List UInt8)) (hl:L.length<100000) (i:Nat) (hi:i<L.length) (hs:(L.getD i []).length<100000) (h32:True):
  lA.l3 (L.map mkS) (i:Int) 0 []=if(L.getD i []).all (fun c=>plB c.toNat)then lA.l1 (L.map mkS) ((i+1:Nat):Int) []else some ([],4,()):=by
 have hd:=cM mkS L i [] ByteArray.empty hi;generalize hs':L.getD i []=s at *
 have key:∀(k j:Nat),s.length-j=k→j≤s.length→(s.take j).all (fun c=>plB c.toNat)=true→lA.l3 (L.map mkS) (i:Int) (j:Int) []=if s.all (fun c=>plB c.toNat)then lA.l1 (L.map mkS) ((i+1:Nat):Int) []else some ([],4,()):=by
  intro k
  induction k with
  | zero=>
   intro j hk hj h;have e:j=s.length:=by omega
   subst e;rw[fO2]at h;rw[lA.l3_eq,h];simp(disch:=omega)only[ss,hM2,hd,szS,yN2,xN2];rfl
  | succ k ih=>
   intro j hk hj h;have hlt:j<s.length:=by omega
   have hb:bt (mkS s) (j:Int)=(chr s j:Int):=rfl
   have h4:∀b:Bool,b = !plB (chr s j)→lA.l4 (L.map mkS) (i:Int) (j:Int) b []=if s.all (fun c=>plB c.toNat)then lA.l1 (L.map mkS) ((i+1:Nat):Int) []else some ([],4,()):=by
    rintro b rfl;rw[lA.l4_eq];cases hc:plB (chr s j)with
    | true=>
     simp(disch:=omega)only[ss];exact ih (j+1) (by omega) (by omega) (eO1 s j hlt h hc)
    | false=>
     rw[cH1 s j hlt hc];rfl
   rw[lA.l3_eq];simp(disch:=omega)only[ss,hM2,hd,szS,hb];by_cases h1:chr s j<32
   ·simp(disch:=omega)only[ss];exact h4 true (by unfold plB;simp(disch:=omega)only[ss])
   ·simp(disch:=omega)only[ss]
    exact h4 _ (by
     unfold plB;by_cases h2:chr s j≤126
     ·simp(disch:=omega)only[ss]
     ·simp(disch:=omega)only[ss])
 exact key s.length 0 rfl (iM2 _) rfl
theorem eE1 (L:List (List UInt8)) (hl:L.length<100000) (i:Nat) (hi:i<L.length) (hs:(L.getD i []).length<100000):
  lA.l1 (L.map mkS) (i:Int) []=if mayB (L.getD i [])then lA.l1 (L.map mkS) ((i+1:Nat):Int) []else some ([],4,()):=by
 have hd:=cM mkS L i [] ByteArray.empty hi;have h3:=uB2 L hl i hi hs trivial;generalize hs':L.getD i []=s at *;rw[lA.l1_eq];simp(disch:=omega)only[ss,hM2,hd,szS]
 cases s with
 | nil=>
  simp(disch:=omega)only[ss,xM2];rw[lA.l2_eq];rfl
 | cons x y=>
  have hlen:(x::y).length=y.length+1:=rfl;have hb:bt (mkS (x::y)) 0=(chr (x::y) 0:Int):=rfl;have hh:=tD1 (x::y) (by simp);simp(disch:=omega)only[ss,hlen,hb];rw[lA.l2_eq,←hh];unfold mayB;by_cases hx:(x::y).head?=some 32
  ·rw[dp hx];simp
  ·rw[dn hx,cond_false,h3];simp
theorem mS1 (L:List (List UInt8)) (hl:L.length<100000) (hs:∀s∈L,s.length<100000) {k:Nat} (hk:k<L.length) (hb:mayB (L.getD k [])=false) (h:∀i,i<k→mayB (L.getD i [])=true):lA.f (L.map mkS)=some ([],4,()):=by
 have hlen:∀i,i<L.length→(L.getD i []).length<100000:=fun i hi=>hs _ (by rw[dM2,nM2 hi];exact mO2 hi)
 rw[lA.f_eq];refine(eH (fun i:Nat=>lA.l1 (L.map mkS) i []) (k:=k) (i:=0) (iM2 _) fun j _ hj=>?_).trans ?_
 ·show lA.l1 (L.map mkS) (j:Nat) []=_;rw[eE1 L hl j (by omega) (hlen j (by omega)),h j hj];rfl
 ·show lA.l1 (L.map mkS) (k:Nat) []=_;rw[eE1 L hl k hk (hlen k hk),hb];rfl
theorem gQ1 (L:List (List UInt8)) (hl:L.length<100000) (hs:∀s∈L,s.length<100000) (h:∀i,i<L.length→mayB (L.getD i [])=true):lA.f (L.map mkS)=lA.l5 (L.map mkS) 0 []:=by
 have hlen:∀i,i<L.length→(L.getD i []).length<100000:=fun i hi=>hs _ (by rw[dM2,nM2 hi];exact mO2 hi)
 rw[lA.f_eq];refine(eH (fun i:Nat=>lA.l1 (L.map mkS) i []) (k:=L.length) (i:=0) (iM2 _) fun j _ hj=>?_).trans ?_
 ·show lA.l1 (L.map mkS) (j:Nat) []=_;rw[eE1 L hl j (by omega) (hlen j (by omega)),h j hj];rfl
 ·show lA.l1 (L.map mkS) (L.length:Nat) []=_;rw[lA.l1_eq];simp(disch:=omega)only[ss,hM2]
def xG :Nat→Nat→List UInt8→List UInt8
 | 0,_,s=>s++[13,10]
 | n+1,w,s=>if w<s.length then s.take w++13::10::32::xG n 74 (s.drop w)else s++[13,10]
def rD (L:List (List UInt8)):List UInt8:=L.flatMap fun s=>xG s.length 75 s
theorem ext0 (s:List UInt8) (w:Nat):vD ((mkS s).extract 0 w)=I (s.take w):=by rw[eT1,sO,B_mk]
theorem exte (s:List UInt8) (w:Nat):(mkS s).extract w s.length=mkS (s.drop w):=lI (by
 have:=qL (mkS s) w;rw[szS]at this;rw[this]
 rfl)
theorem lG2 (X:List ByteArray) (N:Int) (i:Nat) (hi:i<100000):∀(n:Nat) (s:List UInt8) (w:Nat) (y:List UInt8),s.length≤n→1≤w→w<100→y.length+4*s.length<1000000 →
  mB.l3 (mkS s) (w:Int) X N (i:Int) (I y)=if 4096<(y++xG n w s).length then some ([],3,())else mB.l2 X N ((i+1:Nat):Int) (I (y++xG n w s)):=by
 have hlim:wC=17179869184:=rfl;have hend:∀(s:List UInt8) (w:Nat) (y:List UInt8),s.length≤w→y.length+4*s.length<1000000 →
   mB.l3 (mkS s) (w:Int) X N (i:Int) (I y)=if 4096<(y++(s++[13,10])).length then some ([],3,())else mB.l2 X N ((i+1:Nat):Int) (I (y++(s++[13,10]))):=by
  intro s w y h1 h2;have e:I y++I s++([13,10]:List Int)=I (y++(s++[13,10])):=by simp[I]
  have e2:(y++(s++[13,10])).length=y.length+s.length+2:=by simp;omega
  have hb:vD (mkS s)=I s:=rfl;have e6:(I y++I s).length=y.length+s.length:=by rw[←aZ1,dH,cM2]
  rw[mB.l3_eq,hb,e];simp(disch:=omega)only[ss,szS,dH,e6,e2,kM2,xM2];by_cases h:4096<(y++(s++[13,10])).length
  ·rw[e2]at h;rw[if_pos (by omega)];simp(disch:=omega)only[ss]
  ·rw[e2]at h;rw[if_neg (by omega)];simp(disch:=omega)only[ss,yN2,xN2]
 intro n
 induction n with
 | zero=>
  intro s w y h1 h2 h3 h4;exact hend s w y (by omega) h4
 | succ n ih=>
  intro s w y h1 h2 h3 h4;unfold xG;by_cases h:w<s.length
  ·rw[if_pos h];have e:I y++I (s.take w)++([13,10,32]:List Int)=I (y++(s.take w++[13,10,32])):=by simp[I]
   have e3:(s.take w).length=w:=by simp;omega
   have e4:(s.drop w).length=s.length-w:=by simp
   have e2:(y++(s.take w++[13,10,32])).length=y.length+w+3:=by simp;omega
   have e6:(I y++I (s.take w)).length=y.length+w:=by rw[←aZ1,dH,cM2,e3]
   rw[mB.l3_eq];simp(disch:=omega)only[ss,szS,ext0,e,dH,e6,e2,e3,kM2,xM2];rw[exte];have:=ih (s.drop w) 74 (y++(s.take w++[13,10,32])) (by omega) (by omega) (by omega) (by omega);rw[show((74:Nat):Int)=74 from rfl]at this;rw[this];have e5:y++(s.take w++[13,10,32])++xG n 74 (s.drop w)=y++(s.take w++13::10::32::xG n 74 (s.drop w)):=by simp
   rw[e5]
  ·rw[if_neg h];exact hend s w y (by omega) h4
theorem rR1 :∀(n w:Nat) (s:List UInt8),s.length≤n→1≤w→(xG n w s).length≤4*s.length+2:=by
 intro n
 induction n with
 | zero=>
  intro w s h _;simp[xG];omega
 | succ n ih=>
  intro w s h hw;unfold xG;split
  ·rename_i hlt;have e4:(s.drop w).length=s.length-w:=by simp
   have:=ih 74 (s.drop w) (by omega) (by omega);rw[e4]at this;simp only[cM2,kM2,sM2];omega
  ·simp;omega
theorem gM1 :∀(n w:Nat) (s:List UInt8),s.length+2≤(xG n w s).length:=by
 intro n
 induction n with
 | zero=>
  intro w s;simp[xG]
 | succ n ih=>
  intro w s;unfold xG;split
  ·have e4:(s.drop w).length=s.length-w:=by simp
   have:=ih 74 (s.drop w);rw[e4]at this;simp only[cM2,kM2,sM2];omega
  ·simp
theorem lB2 (X:List ByteArray) (i:Nat) (hi:i<100000):∀(n:Nat) (s:List UInt8) (w:Nat) (y:List UInt8),s.length≤n→1≤w→w<100→y.length+4*s.length<1000000 →
  lA.l6 X (i:Int) (mkS s) (w:Int) (I y)=if 4096<(y++xG n w s).length then some ([],3,())else lA.l5 X ((i+1:Nat):Int) (I (y++xG n w s)):=by
 have hlim:wC=17179869184:=rfl;have hend:∀(s:List UInt8) (w:Nat) (y:List UInt8),s.length≤w→y.length+4*s.length<1000000 →
   lA.l6 X (i:Int) (mkS s) (w:Int) (I y)=if 4096<(y++(s++[13,10])).length then some ([],3,())else lA.l5 X ((i+1:Nat):Int) (I (y++(s++[13,10]))):=by
  intro s w y h1 h2;have e:I y++I s++([13,10]:List Int)=I (y++(s++[13,10])):=by simp[I]
  have e2:(y++(s++[13,10])).length=y.length+s.length+2:=by simp;omega
  have hb:vD (mkS s)=I s:=rfl;have e6:(I y++I s).length=y.length+s.length:=by rw[←aZ1,dH,cM2]
  rw[lA.l6_eq,hb,e];simp(disch:=omega)only[ss,szS,dH,e6,e2,kM2,xM2];by_cases h:4096<(y++(s++[13,10])).length
  ·rw[e2]at h;rw[if_pos (by omega)];simp(disch:=omega)only[ss]
  ·rw[e2]at h;rw[if_neg (by omega)];simp(disch:=omega)only[ss,yN2,xN2]
 intro n
 induction n with
 | zero=>
  intro s w y h1 h2 h3 h4;exact hend s w y (by omega) h4
 | succ n ih=>
  intro s w y h1 h2 h3 h4;unfold xG;by_cases h:w<s.length
  ·rw[if_pos h];have e:I y++I (s.take w)++([13,10,32]:List Int)=I (y++(s.take w++[13,10,32])):=by simp[I]
   have e3:(s.take w).length=w:=by simp;omega
   have e4:(s.drop w).length=s.length-w:=by simp
   have e2:(y++(s.take w++[13,10,32])).length=y.length+w+3:=by simp;omega
   have e5:y++(s.take w++[13,10,32])++xG n 74 (s.drop w)=y++(s.take w++13::10::32::xG n 74 (s.drop w)):=by simp
   have e6:(I y++I (s.take w)).length=y.length+w:=by rw[←aZ1,dH,cM2,e3]
   rw[lA.l6_eq];simp(disch:=omega)only[ss,szS,ext0,e,dH,e6,e2,e3,kM2,xM2];rw[exte];by_cases hov:4096<y.length+w+3
   ·simp(disch:=omega)only[ss];have:=gM1 n 74 (s.drop w);rw[if_pos (by rw[←e5,cM2,e2];omega)]
   ·simp(disch:=omega)only[ss];have:=ih (s.drop w) 74 (y++(s.take w++[13,10,32])) (by omega) (by omega) (by omega) (by omega);rw[show((74:Nat):Int)=74 from rfl]at this;rw[this,e5]
  ·rw[if_neg h];exact hend s w y (by omega) h4
theorem zV1 (L:List (List UInt8)) (hl:L.length<10000):∀(k i:Nat) (y:List UInt8),L.length-i=k→i≤L.length→y.length≤4096→totF (L.drop i)<10000 →
  mB.l2 (L.map mkS) (L.length:Int) (i:Int) (I y)=if 4096<(y++rD (L.drop i)).length then some ([],3,())else some (I (y++rD (L.drop i)),0,()):=by
 intro k
 induction k with
 | zero=>
  intro i y hk hi hy ht;have e:i=L.length:=by omega
  subst e;rw[mB.l2_eq,wN2];have:y++rD []=y:=by simp[rD]
  rw[this,if_neg (by omega)];simp(disch:=omega)only[ss]
 | succ k ih=>
  intro i y hk hi hy ht;have hlt:i<L.length:=by omega
  have hd:=nR L i [] hlt;rw[hd,pJ]at ht;have hw:=rR1 (L.getD i []).length 75 (L.getD i []) (oM2 _) (by omega);rw[mB.l2_eq];simp(disch:=omega)only[ss,hM2];rw[cM mkS L i [] _ hlt];have:=lG2 (L.map mkS) (L.length:Int) i (by omega) (L.getD i []).length (L.getD i []) 75 y (oM2 _) (by omega) (by omega) (by omega);rw[show((75:Nat):Int)=75 from rfl]at this;rw[this,hd];have e:rD (L.getD i []::L.drop (i+1))=xG (L.getD i []).length 75 (L.getD i [])++rD (L.drop (i+1)):=rfl;rw[e,←rM2];by_cases h:4096<(y++xG (L.getD i []).length 75 (L.getD i [])).length
  ·rw[if_pos h,if_pos (by rw[cM2];omega)]
  ·rw[if_neg h];exact ih (i+1) _ (by omega) (by omega) (by omega) (by omega)
theorem uA2 (L:List (List UInt8)) (hl:L.length<10000):∀(k i:Nat) (y:List UInt8),L.length-i=k→i≤L.length→y.length≤4096→totF (L.drop i)<10000 →
  lA.l5 (L.map mkS) (i:Int) (I y)=if 4096<(y++rD (L.drop i)).length then some ([],3,())else some (I (y++rD (L.drop i)),0,()):=by
 intro k
 induction k with
 | zero=>
  intro i y hk hi hy ht;have e:i=L.length:=by omega
  subst e;rw[lA.l5_eq,wN2];have:y++rD []=y:=by simp[rD]
  rw[this,if_neg (by omega)];simp(disch:=omega)only[ss,hM2]
 | succ k ih=>
  intro i y hk hi hy ht;have hlt:i<L.length:=by omega
  have hd:=nR L i [] hlt;rw[hd,pJ]at ht;rw[lA.l5_eq];simp(disch:=omega)only[ss,hM2];rw[cM mkS L i [] _ hlt];have:=lB2 (L.map mkS) i (by omega) (L.getD i []).length (L.getD i []) 75 y (oM2 _) (by omega) (by omega) (by omega);rw[show((75:Nat):Int)=75 from rfl]at this;rw[this,hd];have e:rD (L.getD i []::L.drop (i+1))=xG (L.getD i []).length 75 (L.getD i [])++rD (L.drop (i+1)):=rfl;rw[e,←rM2];by_cases h:4096<(y++xG (L.getD i []).length 75 (L.getD i [])).length
  ·rw[if_pos h,if_pos (by rw[cM2];omega)]
  ·rw[if_neg h];exact ih (i+1) _ (by omega) (by omega) (by omega) (by omega)
def rK1 (L:List (List UInt8)):Option (List Int×Int×Unit):=
 if(L.all mayB)=true then(if 4096<(rD L).length then some ([],3,())else some (I (rD L),0,()))else some ([],4,())
theorem fS {L:List (List UInt8)} {s:List UInt8} (h:s∈L):s.length≤totF L:=by
 induction L with
 | nil=>cases h
 | cons a l ih=>
  rw[pJ]
  cases h with
  | head=>omega
  | tail _ h=>have:=ih h;omega
theorem fY1 (L:List (List UInt8)) (h:∀i,i<L.length→mayB (L.getD i [])=true):L.all mayB=true:=by rw[dN2];intro s hs;obtain⟨i,hi,rfl⟩:=pP2 hs;have:=h i hi;rw[dM2,nM2 hi]at this;exact this
theorem lY (L:List (List UInt8)) {k:Nat} (hk:k<L.length) (hb:mayB (L.getD k [])=false):¬L.all mayB=true:=by intro h;rw[dN2]at h;have:=h _ (show L.getD k []∈L by rw[dM2,nM2 hk];exact mO2 hk);rw[hb]at this;cases this
theorem yM1 (L:List (List UInt8)) (hl:L.length≤300) (ht:totF L≤9000):mB.f (L.map mkS)=rK1 L:=by
 have hs:∀s∈L,s.length<100000:=fun s h=>by have:=fS h;omega
 unfold rK1;rcases oS (fun i=> !mayB (L.getD i [])) L.length with h | ⟨k,h1,h2,h3⟩
 ·have h':∀i,i<L.length→mayB (L.getD i [])=true:=fun i hi=>by have:=h i hi;simpa using this
  rw[if_pos (fY1 L h')];have e1:=zV1 L (by omega) L.length 0 [] rfl (iM2 _) (by simp) (by rw[bN2];omega);rw[bN2,lN2]at e1;exact(cJ1 L (by omega) hs h').trans e1
 ·have h2':mayB (L.getD k [])=false:=by simpa using h2
  have h3':∀i,i<k→mayB (L.getD i [])=true:=fun i hi=>by have:=h3 i hi;simpa using this
  rw[if_neg (lY L h1 h2')];exact jM1 L (by omega) hs h1 h2' h3'
theorem qS1 (L:List (List UInt8)) (hl:L.length≤300) (ht:totF L≤9000):mB.f (L.map mkS)=rK1 L∧lA.f (L.map mkS)=rK1 L:=by
 have hs:∀s∈L,s.length<100000:=fun s h=>by have:=fS h;omega
 unfold rK1;rcases oS (fun i=> !mayB (L.getD i [])) L.length with h | ⟨k,h1,h2,h3⟩
 ·have h':∀i,i<L.length→mayB (L.getD i [])=true:=fun i hi=>by have:=h i hi;simpa using this
  rw[if_pos (fY1 L h')];have e1:=zV1 L (by omega) L.length 0 [] rfl (iM2 _) (by simp) (by rw[bN2];omega);have e2:=uA2 L (by omega) L.length 0 [] rfl (iM2 _) (by simp) (by rw[bN2];omega);rw[bN2,lN2]at e1 e2;exact⟨(cJ1 L (by omega) hs h').trans e1,(gQ1 L (by omega) hs h').trans e2⟩
 ·have h2':mayB (L.getD k [])=false:=by simpa using h2
  have h3':∀i,i<k→mayB (L.getD i [])=true:=fun i hi=>by have:=h3 i hi;simpa using this
  rw[if_neg (lY L h1 h2')];exact⟨jM1 L (by omega) hs h1 h2' h3',mS1 L (by omega) hs h1 h2' h3'⟩
def nS :List UInt8→Bool
 | []=>true
 | b::l=>(plB b.toNat||(decide (b=10)||(decide (b=13)&&decide (l.head?=some 10))))&&nS l
theorem sE1 :∀{a l:List UInt8},a.all (fun c=>plB c.toNat)=true→nS l=true→nS (a++l)=true
 | [],_,_,h=>h
 | b::a,l,h1,h2=>by rw[iO2,fM2]at h1;rw[lP2,nS,h1.1,sE1 h1.2 h2];rfl
theorem fR1 :∀(n w:Nat) (s rest:List UInt8),s.all (fun c=>plB c.toNat)=true→nS rest=true→nS (xG n w s++rest)=true:=by
 have hend:∀(s rest:List UInt8),s.all (fun c=>plB c.toNat)=true→nS rest=true→nS ((s++[13,10])++rest)=true:=by intro s rest h1 h2;rw[rM2];exact sE1 h1 (by simp[nS,h2])
 intro n
 induction n with
 | zero=>intro w s rest h1 h2;exact hend s rest h1 h2
 | succ n ih=>
  intro w s rest h1 h2;unfold xG;split
  ·have ht:(s.take w).all (fun c=>plB c.toNat)=true:=by rw[dN2]at h1 ⊢;exact fun x hx=>h1 x (vO2 hx)
   have hd:(s.drop w).all (fun c=>plB c.toNat)=true:=by rw[dN2]at h1 ⊢;exact fun x hx=>h1 x (wP2 hx)
   have:=ih 74 (s.drop w) rest hd h2;rw[rM2];refine sE1 ht ?_;have h32:plB 32=true:=rfl;simp[nS,this,h32]
  ·exact hend s rest h1 h2
theorem pT1 :∀(l:List UInt8),nS l=true→l.head?≠some 32 → ∀i,i<l.length→bad l i=false:=by
 have key:∀(l:List UInt8),nS l=true → ∀i,i<l.length→(!plB (chr l i) && !bL l i)=false:=by
  intro l
  induction l with
  | nil=>intro _ i hi;cases hi
  | cons b l ih=>
   intro h i hi;rw[nS,fM2]at h
   cases i with
   | succ i=>
    have:=ih h.2 i (by simpa using hi);have e1:chr (b::l) (i+1)=chr l i:=rfl;have e2:bL (b::l) (i+1)=bL l i:=by unfold bL;have e3:chr (b::l) (i+1+1)=chr l (i+1):=rfl;rw[e1,e3];simp
    rw[e1,e2];exact this
   | zero=>
    have h1:=h.1;have e1:chr (b::l) 0=b.toNat:=rfl;unfold bL;rw[e1]
    cases hp:plB b.toNat with
    | true=>rfl
    | false=>
     rw[hp]at h1;simp only[Bool.false_or,eO2,decide_eq_true_eq,fM2]at h1;rcases h1 with rfl | ⟨rfl,h1⟩
     ·rfl
     ·cases l with
      | nil=>cases h1
      | cons x y=>
       simp at h1;subst h1;simp[chr]
 intro l h1 h2 i hi;unfold bad;rw[key l h1 i hi,Bool.false_or];by_cases h0:i=0
 ·subst h0;have hne:l≠[]:=fun e=>by rw[e]at hi;cases hi
  have:=tD1 l hne;rw[dn h2]at this;have h3:¬((chr l 0:Int)=32):=of_decide_eq_false this.symm;rw[dn (by omega:¬chr l 0=32)];simp
 ·rw[dn h0];rfl
theorem nK1 {s:List UInt8} (h:mayB s=true):s.all (fun c=>plB c.toNat)=true∧s≠[]∧s.head?≠some 32:=by unfold mayB at h;simp only[fM2]at h;obtain⟨h1,h2,h3⟩:=h;exact⟨h1,by simpa using h2,by simpa using h3⟩
theorem cY :∀(L:List (List UInt8)),L.all mayB=true→nS (rD L)=true
 | [],_=>rfl
 | s::L,h=>by rw[iO2,fM2]at h;exact fR1 s.length 75 s (rD L) (nK1 h.1).1 (cY L h.2)
theorem wP1 (n w:Nat) (s rest:List UInt8) (hw:1≤w) (hs:s≠[]):(xG n w s++rest).head?=s.head?:=by
 cases s with
 | nil=>exact absurd rfl hs
 | cons x y=>
  cases n with
  | zero=>rfl
  | succ n=>
   unfold xG;split
   ·cases w with
    | zero=>omega
    | succ w=>rfl
   ·rfl
theorem xK1 (L:List (List UInt8)) (h:L.all mayB=true):(rD L).head?≠some 32:=by
 cases L with
 | nil=>intro e;cases e
 | cons s L=>
  rw[iO2,fM2]at h;obtain⟨_,h2,h3⟩:=nK1 h.1;have:rD (s::L)=xG s.length 75 s++rD L:=rfl;rw[this,wP1 _ _ _ _ (by omega) h2];exact h3
theorem cG2 {s:List UInt8} (h:s.all (fun c=>plB c.toNat)=true):(10:UInt8)∉s:=by intro hm;rw[dN2]at h;have:=h 10 hm;cases this
theorem sX1 (s:List UInt8):yF (s++[13])=s:=by simp[yF]
theorem cU (acc:List (List UInt8)) (s:List UInt8) (r:List (List UInt8)):lJ acc (s::r)=lJ (glue acc (yF s)) r:=rfl
theorem eZ (s rest:List UInt8) (h:s.all (fun c=>plB c.toNat)=true):uE ((s++13::10::rest))=(s++[13])::uE rest:=by
 have:s++13::10::rest=(s++[13])++10::rest:=by simp
 rw[this,sQ];intro hm;rw[pM2]at hm;rcases hm with hm | hm
 ·exact cG2 h hm
 ·simp at hm
theorem iQ1 :∀(n:Nat) (s rest p:List UInt8) (acc:List (List UInt8)),s.length≤n→s.all (fun c=>plB c.toNat)=true →
  lJ (acc++[p]) (uE (32::(xG n 74 s++rest)))=lJ (acc++[p++s]) (uE rest):=by
 have h32:plB (32:UInt8).toNat=true:=rfl
 have one:∀(s rest p:List UInt8) (acc:List (List UInt8)),s.all (fun c=>plB c.toNat)=true→lJ (acc++[p]) (uE (32::(s++13::10::rest)))=lJ (acc++[p++s]) (uE rest):=by
  intro s rest p acc h;have:=eZ (32::s) rest (by rw[iO2,h32,h];rfl);rw[lP2]at this;rw[this,cU,sX1]
  congr 1
  simp[glue]
 intro n
 induction n with
 | zero=>
  intro s rest p acc _ h;have:=one s rest p acc h;simpa[xG]using this
 | succ n ih=>
  intro s rest p acc hn h
  have ht:(s.take 74).all (fun c=>plB c.toNat)=true:=by rw[dN2]at h ⊢;exact fun x hx=>h x (vO2 hx)
  have hd:(s.drop 74).all (fun c=>plB c.toNat)=true:=by rw[dN2]at h ⊢;exact fun x hx=>h x (wP2 hx)
  unfold xG;split
  ·rename_i hlt;have h1:=one (s.take 74) (32::(xG n 74 (s.drop 74)++rest)) p acc ht;have e:s.take 74++13::10::32::xG n 74 (s.drop 74)++rest=s.take 74++13::10::32::(xG n 74 (s.drop 74)++rest):=by simp
   rw[e,h1,ih (s.drop 74) rest (p++s.take 74) acc (by rw[aN2];omega) hd,rM2,rN2]
  ·have:=one s rest p acc h;simpa using this
theorem tO1 (s rest:List UInt8) (acc:List (List UInt8)) (h:mayB s=true):lJ acc (uE (xG s.length 75 s++rest))=lJ (acc++[s]) (uE rest):=by
 obtain⟨h1,h2,h3⟩:=nK1 h
 have one:∀(t rest:List UInt8),t.all (fun c=>plB c.toNat)=true→t.head?≠some 32→lJ acc (uE (t++13::10::rest))=lJ (acc++[t]) (uE rest):=by
  intro t rest ht hh;rw[eZ t rest ht,cU,sX1]
  congr 1
  unfold glue;rw[if_neg hh]
 obtain⟨n,hn⟩:∃n,s.length=n+1:=by cases s with
  | nil=>exact absurd rfl h2
  | cons x y=>exact⟨y.length,rfl⟩
 rw[hn];unfold xG;split
 ·rename_i hlt
  have ht:(s.take 75).all (fun c=>plB c.toNat)=true:=by rw[dN2]at h1 ⊢;exact fun x hx=>h1 x (vO2 hx)
  have hd:(s.drop 75).all (fun c=>plB c.toNat)=true:=by rw[dN2]at h1 ⊢;exact fun x hx=>h1 x (wP2 hx)
  have hh:(s.take 75).head?≠some 32:=by
   cases s with
   | nil=>exact absurd rfl h2
   | cons x y=>simpa using h3
  have e:s.take 75++13::10::32::xG n 74 (s.drop 75)++rest=s.take 75++13::10::(32::(xG n 74 (s.drop 75)++rest)):=by simp
  rw[e,one _ _ ht hh,iQ1 n (s.drop 75) rest (s.take 75) acc (by rw[aN2];omega) hd,rN2]
 ·have:=one s rest h1 h3;simpa using this
theorem zU :∀(L acc:List (List UInt8)),L.all mayB=true→lJ acc (uE (rD L))=acc++L
 | [],acc,_=>by have:uE (rD [])=[]:=rfl;rw[this];simp[lJ]
 | s::L,acc,h=>by rw[iO2,fM2]at h;have:rD (s::L)=xG s.length 75 s++rD L:=rfl;rw[this,tO1 s (rD L) acc h.1,zU L (acc++[s]) h.2];simp
def run :Nat→List UInt8→Bool
 | _,[]=>true
 | c,b::l=>if b=10 then run 0 l else decide (c+1≤76)&&run (c+1) l
abbrev jM (l:List Int):Prop:=l.Pairwise (· < ·)
theorem mT :∀{a b:List Int},jM a→jM b→(∀x,x∈a↔x∈b)→a=b
 | [],[],_,_,_=>rfl
 | [],y::b,_,_,h=>by have:=(h y).2 mM2;cases this
 | x::a,[],_,_,h=>by have:=(h x).1 mM2;cases this
 | x::a,y::b,ha,hb,h=>by
  have ha:=pN2.1 ha;have hb:=pN2.1 hb;have e:x=y:=by
   have h1:=(h x).1 mM2;have h2:=(h y).2 mM2;rcases jM2.1 h1 with h1 | h1
   ·exact h1
   ·rcases jM2.1 h2 with h2 | h2
    ·exact h2.symm
    ·have:=hb.1 x h1;have:=ha.1 y h2;omega
  subst e;rw[mT ha.2 hb.2 fun z=>?_];have h3:=h z;simp only[jM2]at h3;constructor
  ·intro hz;rcases h3.1 (.inr hz)with h4 | h4
   ·have:=ha.1 z hz;omega
   ·exact h4
  ·intro hz;rcases h3.2 (.inr hz)with h4 | h4
   ·have:=hb.1 z hz;omega
   ·exact h4
theorem vX1 (l:List Int) (i:Nat) (hi:i<l.length) (hl:l.length≤1000000) (y:List Int) (hy:y.length≤1000000):∀(k q:Nat),y.length-q=k→q≤y.length→(∀j,j<q→y.getD j 0<l.getD i 0) →
  ∃q':Nat,q'≤y.length∧pA.l2 l i q y=pA.l4 l i q' y∧(∀j,j<q'→y.getD j 0<l.getD i 0)∧(q'<y.length→l.getD i 0≤y.getD q' 0):=by
 intro k
 induction k with
 | zero=>
  intro q hk hq h;refine⟨q,hq,?_,h,fun h=>by omega⟩;rw[pA.l2_eq];simp(disch:=omega)only[ss,pA.l3_eq]
 | succ k ih=>
  intro q hk hq h;rw[pA.l2_eq];by_cases hc:y.getD q 0<l.getD i 0
  ·simp(disch:=omega)only[ss,pA.l3_eq];refine ih (q+1) (by omega) (by omega) fun j hj=>?_
   by_cases e:j=q
   ·subst e;exact hc
   ·exact h j (by omega)
  ·simp(disch:=omega)only[ss,pA.l3_eq];exact⟨q,hq,rfl,h,fun _=>by omega⟩
theorem qU1 (l:List Int) (hl:l.length≤1000000):∀(k i:Nat) (y:List Int),l.length-i=k→i≤l.length→y.length≤i→jM y →
  ∃r,pA.l1 l i y=some (r,())∧jM r ∧ ∀x,x∈r↔x∈y∨x∈l.drop i:=by
 have hlim:wC=17179869184:=rfl;intro k
 induction k with
 | zero=>
  intro i y hk hi hy hr;have e:i=l.length:=by omega
  subst e;rw[pA.l1_eq];simp(disch:=omega)only[ss];exact⟨y,rfl,hr,fun x=>by simp⟩
 | succ k ih=>
  intro i y hk hi hy hr;have hlt:i<l.length:=by omega
  obtain⟨q,h1,h2,h3,h4⟩:=vX1 l i hlt hl y (by omega) _ 0 rfl (iM2 _) fun j hj=>by omega
  rw[pA.l1_eq];rw[tM2]at h2;simp(disch:=omega)only[ss,h2];rw[nC 0 hlt,pA.l4_eq];have ins:(q<y.length→l.getD i 0<y.getD q 0) → ∃r,pA.l6 l i q y=some (r,())∧jM r ∧ ∀x,x∈r↔x∈y∨x∈l.getD i 0::l.drop (i+1):=by
   intro h5;have hp:=nA2 y (l.getD i 0) q;have hs:jM (y.take q++([l.getD i 0]++y.drop q)):=by
    refine hQ1 hr (fun a ha=>?_) fun a ha=>?_
    ·obtain⟨j,hj,e⟩:=pP2 ha;rw[sM2]at hj;rw[List.getElem_take]at e;have:=h3 j (by omega);rw[dI 0 (by omega),e]at this;exact this
    ·obtain⟨j,hj,e⟩:=pP2 ha;rw[aN2]at hj;rw[List.getElem_drop]at e;have a1:=h5 (by omega);rw[dI 0 (show q<y.length by omega)]at a1;by_cases hj0:j=0
     ·subst hj0;simp only[jP2]at e;rw[←e];exact a1
     ·have:=List.pairwise_iff_getElem.1 hr q (q+j) (by omega) (by omega) (by omega);rw[e]at this;omega
   obtain⟨r,b1,b2,b3⟩:=ih (i+1) _ (by omega) (by omega) (by rw[hp.length_eq];simp;omega) hs;refine⟨r,?_,b2,fun x=>?_⟩
   ·rw[pA.l6_eq];simp(disch:=omega)only[ss,gM2,cM2,sM2,aN2,hlim];exact b1
   ·rw[b3,hp.mem_iff,jM2,jM2];constructor
    ·rintro((h | h) | h)
     ·exact .inr (.inl h)
     ·exact .inl h
     ·exact .inr (.inr h)
    ·rintro(h | h | h)
     ·exact .inl (.inr h)
     ·exact .inl (.inl h)
     ·exact .inr h
  by_cases hq:q<y.length
  ·by_cases he:y.getD q 0=l.getD i 0
   ·simp(disch:=omega)only[ss,pA.l5_eq];obtain⟨r,b1,b2,b3⟩:=ih (i+1) y (by omega) (by omega) (by omega) hr;refine⟨r,b1,b2,fun x=>?_⟩;have hm:l.getD i 0∈y:=by rw[←he];exact sC 0 hq
    rw[b3,jM2];constructor
    ·rintro(h | h)
     ·exact .inl h
     ·exact .inr (.inr h)
    ·rintro(h | h | h)
     ·exact .inl h
     ·exact .inl (h ▸ hm)
     ·exact .inr h
   ·simp(disch:=omega)only[ss,pA.l5_eq];exact ins fun h=>by have:=h4 h;omega
  ·simp(disch:=omega)only[ss,pA.l5_eq];exact ins fun h=>by omega
theorem cZ (l:List Int) (hl:l.length≤1000000):∃r,pA.f l=some (r,())∧jM r ∧ ∀x,x∈r↔x∈l:=by obtain⟨r,h1,h2,h3⟩:=qU1 l hl _ 0 [] rfl (iM2 _) (oM2 _) List.Pairwise.nil;refine⟨r,?_,h2,fun x=>by rw[h3];simp⟩;rw[pA.f_eq];exact h1
def dd :Int→List Int→List Int
 | _,[]=>[]
 | p,a::l=>if a=p then dd a l else a::dd a l
theorem sT1 :∀(l:List Int) (p x:Int),x∈dd p l∨x=p↔x∈l∨x=p
 | [],p,x=>by simp[dd]
 | a::l,p,x=>by
  unfold dd;have ih:=sT1 l a x;by_cases h:a=p
  ·subst h;rw[if_pos rfl,ih,jM2];constructor
   ·rintro(h | h)
    ·exact .inl (.inr h)
    ·exact .inr h
   ·rintro((h | h) | h)
    ·exact .inr h
    ·exact .inl h
    ·exact .inr h
  ·rw[if_neg h,jM2,jM2];constructor
   ·rintro((h1 | h1) | h1)
    ·exact .inl (.inl h1)
    ·rcases ih.1 (.inl h1)with h2 | h2
     ·exact .inl (.inr h2)
     ·exact .inl (.inl h2)
    ·exact .inr h1
   ·rintro((h1 | h1) | h1)
    ·exact .inl (.inl h1)
    ·rcases ih.2 (.inl h1)with h2 | h2
     ·exact .inl (.inr h2)
     ·exact .inl (.inl h2)
    ·exact .inr h1
theorem xF1 :∀(l:List Int) (p:Int),(p::l).Pairwise (· ≤ ·)→jM (p::dd p l)
 | [],p,_=>List.pairwise_singleton _ _
 | a::l,p,h=>by
  unfold dd;rw[pN2]at h;have ih:=xF1 l a h.2;by_cases he:a=p
  ·subst he;rw[if_pos rfl];exact ih
  ·rw[if_neg he];have hlt:p<a:=by have:=h.1 a mM2;omega
   refine pN2.2 ⟨fun b hb=>?_,ih⟩;rcases jM2.1 hb with rfl | hb
   ·exact hlt
   ·have:=(pN2.1 ih).1 b hb;omega
def dds :List Int→List Int
 | []=>[]
 | a::l=>a::dd a l
theorem oE2 (N:Nat) (hN:N≤1000000) (b:Nat):∀(k i q:Nat) (y:List Int),y.length=N→N-(b+q)=k→1≤q→i<b+q→b+q≤N →
  jA.l3 i b q y=some (y.take i++dd (y.getD (b+q-1) 0) (y.drop (b+q)),()):=by
 intro k
 induction k with
 | zero=>
  intro i q y hy hk hq hi hb;have e:b+q=y.length:=by omega
  have e2:(y.take i++List.replicate (y.length-i) 0).take i=y.take i:=by rw[hP2 (by rw[sM2];omega),List.take_take,Nat.min_self]
  rw[jA.l3_eq,e,wN2];simp(disch:=omega)only[ss,cM2,sM2,List.length_replicate,e2,jA.l4_eq,dd,qM2]
 | succ k ih=>
  intro i q y hy hk hq hi hb;have hlt:b+q<y.length:=by omega
  have w1:w6 ((q:Int)-1)=((q-1:Nat):Int):=qS (by omega) (by omega);have w2:((b:Int)+((q-1:Nat):Int)).toNat=b+q-1:=by omega
  have e1:((q:Int)<((y.length-b:Nat):Int)):=by omega
  rw[jA.l3_eq,nC 0 hlt];simp(disch:=omega)only[ss,w1,w2,e1,aN2,dd];by_cases hc:y.getD (b+q) 0=y.getD (b+q-1) 0
  ·simp(disch:=omega)only[ss,if_pos hc];have:=ih i (q+1) y hy (by omega) (by omega) (by omega) (by omega);rw[show b+(q+1)-1=b+q by omega,show b+(q+1)=b+q+1 by omega]at this;exact this
  ·simp(disch:=omega)only[ss,if_neg hc];have:=ih (i+1) (q+1) (y.set i (y.getD (b+q) 0)) (by simp[hy]) (by omega) (by omega) (by omega) (by omega);refine this.trans ?_;have g1:(y.set i (y.getD (b+q) 0)).getD (b+(q+1)-1) 0=y.getD (b+q) 0:=by
    rw[show b+(q+1)-1=b+q by omega,dM2,dM2,List.getElem?_set];by_cases h:i=b+q
    ·omega
    ·rw[if_neg h]
   have g2:(y.set i (y.getD (b+q) 0)).getD i 0=y.getD (b+q) 0:=by rw[dI 0 (show i<(y.set i (y.getD (b+q) 0)).length by simp;omega)];simp
   rw[g1,kE 0 (show i<(y.set i (y.getD (b+q) 0)).length by simp;omega),List.drop_set_of_lt (by omega),List.take_set_of_le (oM2 i),g2,show b+(q+1)=b+q+1 by omega];simp
theorem eG2 (y:List Int) (hN:y.length≤1000000):∀(k q:Nat),y.length-q=k→1≤q→q≤y.length →
  jA.l2 q y=some (y.take q++dd (y.getD (q-1) 0) (y.drop q),()):=by
 intro k
 induction k with
 | zero=>
  intro q hk hq hq2;have e:q=y.length:=by omega
  subst e;rw[jA.l2_eq];simp(disch:=omega)only[ss,jA.l5_eq,wN2,fO2,dd,qM2]
 | succ k ih=>
  intro q hk hq hq2;have hlt:q<y.length:=by omega
  have w1:w6 ((q:Int)-1)=((q-1:Nat):Int):=qS (by omega) (by omega);rw[jA.l2_eq,nC 0 hlt];simp(disch:=omega)only[ss,w1,dd];by_cases hc:y.getD q 0=y.getD (q-1) 0
  ·simp(disch:=omega)only[ss,if_pos hc];have:=oE2 y.length hN q _ q 1 y rfl rfl (oM2 _) (by omega) (by omega);rw[show q+1-1=q by omega]at this;exact this
  ·simp(disch:=omega)only[ss,if_neg hc];have:=ih (q+1) (by omega) (by omega) (by omega);rw[show q+1-1=q by omega,kE 0 hlt]at this;refine Eq.trans this ?_;simp
theorem oU (y:List Int) (hN:y.length≤1000000):jA.f y=some (dds y,()):=by
 rw[jA.f_eq]
 cases y with
 | nil=>simp(disch:=omega)only[ss,xM2,tM2,jA.l1_eq];rfl
 | cons a l=>
  by_cases h:l=[]
  ·subst h;simp(disch:=omega)only[ss,kM2,xM2,jA.l1_eq];rfl
  ·have h1:0<l.length:=hO2.2 h;have:=eG2 (a::l) hN _ 1 rfl (oM2 _) (by simp);simp(disch:=omega)only[ss,kM2];refine Eq.trans this ?_;rfl
abbrev Dy :=Int×Int×Unit
theorem hY1 (a b:Dy):(decide (a.1=b.1)&&decide (a.2.1=b.2.1))=decide (a=b):=by obtain⟨a1,a2,⟨⟩⟩:=a;obtain⟨b1,b2,⟨⟩⟩:=b;rw[Bool.eq_iff_iff];simp
def dyLt (a b:Dy):Prop:=a.1<b.1∨a.1=b.1∧a.2.1<b.2.1
def ddT :Dy→List Dy→List Dy
 | _,[]=>[]
 | p,a::l=>if a=p then ddT a l else a::ddT a l
def ddsT :List Dy→List Dy
 | []=>[]
 | a::l=>a::ddT a l
theorem sB2 (N:Nat) (hN:N≤1000000) (b:Nat):∀(k i q:Nat) (y:List Dy),y.length=N→N-(b+q)=k→1≤q→i<b+q→b+q≤N →
  dA.l3 i b q y=some (y.take i++ddT (y.getD (b+q-1) ((0,0,()):Int×Int×Unit)) (y.drop (b+q)),()):=by
 intro k
 induction k with
 | zero=>
  intro i q y hy hk hq hi hb;have e:b+q=y.length:=by omega
  have e2:(y.take i++List.replicate (y.length-i) ((0,0,()):Int×Int×Unit)).take i=y.take i:=by rw[hP2 (by rw[sM2];omega),List.take_take,Nat.min_self]
  rw[dA.l3_eq,e,wN2];simp(disch:=omega)only[ss,cM2,sM2,List.length_replicate,e2,dA.l4_eq,ddT,qM2]
 | succ k ih=>
  intro i q y hy hk hq hi hb;have hlt:b+q<y.length:=by omega
  have w1:w6 ((q:Int)-1)=((q-1:Nat):Int):=qS (by omega) (by omega);have w2:((b:Int)+((q-1:Nat):Int)).toNat=b+q-1:=by omega
  have e1:((q:Int)<((y.length-b:Nat):Int)):=by omega
  rw[dA.l3_eq,nC ((0,0,()):Int×Int×Unit) hlt];simp(disch:=omega)only[ss,w1,w2,e1,aN2,ddT];by_cases hc:y.getD (b+q) ((0,0,()):Int×Int×Unit)=y.getD (b+q-1) ((0,0,()):Int×Int×Unit)
  ·have hc1:=decide_eq_true hc;simp(disch:=omega)only[ss,hY1,hc1,if_pos hc];have:=ih i (q+1) y hy (by omega) (by omega) (by omega) (by omega);rw[show b+(q+1)-1=b+q by omega,show b+(q+1)=b+q+1 by omega]at this;exact this
  ·have hc1:=decide_eq_false hc;simp(disch:=omega)only[ss,hY1,hc1,if_neg hc];have:=ih (i+1) (q+1) (y.set i (y.getD (b+q) ((0,0,()):Int×Int×Unit))) (by simp[hy]) (by omega) (by omega) (by omega) (by omega);refine this.trans ?_;have g1:(y.set i (y.getD (b+q) ((0,0,()):Int×Int×Unit))).getD (b+(q+1)-1) ((0,0,()):Int×Int×Unit)=y.getD (b+q) ((0,0,()):Int×Int×Unit):=by
    rw[show b+(q+1)-1=b+q by omega,dM2,dM2,List.getElem?_set];by_cases h:i=b+q
    ·omega
    ·rw[if_neg h]
   have g2:(y.set i (y.getD (b+q) ((0,0,()):Int×Int×Unit))).getD i ((0,0,()):Int×Int×Unit)=y.getD (b+q) ((0,0,()):Int×Int×Unit):=by rw[dI ((0,0,()):Int×Int×Unit) (show i<(y.set i (y.getD (b+q) ((0,0,()):Int×Int×Unit))).length by simp;omega)];simp
   rw[g1,kE ((0,0,()):Int×Int×Unit) (show i<(y.set i (y.getD (b+q) ((0,0,()):Int×Int×Unit))).length by simp;omega),List.drop_set_of_lt (by omega),List.take_set_of_le (oM2 i),g2,show b+(q+1)=b+q+1 by omega];simp
theorem iY1 (y:List Dy) (hN:y.length≤1000000):∀(k q:Nat),y.length-q=k→1≤q→q≤y.length →
  dA.l2 q y=some (y.take q++ddT (y.getD (q-1) ((0,0,()):Int×Int×Unit)) (y.drop q),()):=by
 intro k
 induction k with
 | zero=>
  intro q hk hq hq2;have e:q=y.length:=by omega
  subst e;rw[dA.l2_eq];simp(disch:=omega)only[ss,dA.l5_eq,wN2,fO2,ddT,qM2]
 | succ k ih=>
  intro q hk hq hq2;have hlt:q<y.length:=by omega
  have w1:w6 ((q:Int)-1)=((q-1:Nat):Int):=qS (by omega) (by omega);rw[dA.l2_eq,nC ((0,0,()):Int×Int×Unit) hlt];simp(disch:=omega)only[ss,w1,ddT];by_cases hc:y.getD q ((0,0,()):Int×Int×Unit)=y.getD (q-1) ((0,0,()):Int×Int×Unit)
  ·have hc1:=decide_eq_true hc;simp(disch:=omega)only[ss,hY1,hc1,if_pos hc];have:=sB2 y.length hN q _ q 1 y rfl rfl (oM2 _) (by omega) (by omega);rw[show q+1-1=q by omega]at this;exact this
  ·have hc1:=decide_eq_false hc;simp(disch:=omega)only[ss,hY1,hc1,if_neg hc];have:=ih (q+1) (by omega) (by omega) (by omega);rw[show q+1-1=q by omega,kE ((0,0,()):Int×Int×Unit) hlt]at this;refine Eq.trans this ?_;simp
theorem aE1 (y:List Dy) (hN:y.length≤1000000):dA.f y=some (ddsT y,()):=by
 rw[dA.f_eq]
 cases y with
 | nil=>simp(disch:=omega)only[ss,xM2,tM2,dA.l1_eq];rfl
 | cons a l=>
  by_cases h:l=[]
  ·subst h;simp(disch:=omega)only[ss,kM2,xM2,dA.l1_eq];rfl
  ·have h1:0<l.length:=hO2.2 h;have:=iY1 (a::l) hN _ 1 rfl (oM2 _) (by simp);simp(disch:=omega)only[ss,kM2];refine Eq.trans this ?_;rfl
theorem wU1 (c:UInt8) (s:List UInt8) (hs:s.length≤1000000):∀(k i kF:Nat) (y:List ByteArray),s.length+1-i=k→kF≤i→i≤s.length→y.length≤i→c∉(s.drop kF).take (i-kF) →
  uB.l1 (mkS s) (c.toNat:Int) kF i y=some (y++(segs c (s.drop kF)).map mkS,()):=by
 have hlim:wC=17179869184:=rfl;intro k
 induction k with
 | zero=>intro i kF y hk hf hi;omega
 | succ k ih=>
  intro i kF y hk hf hi hy hn;have hex:(mkS s).extract kF i=mkS ((s.drop kF).take (i-kF)):=lI (by rw[yZ1,B_mk,B_mk]);rw[uB.l1_eq];by_cases hlt:i<s.length
  ·have hbt:bt (mkS s) (i:Int)=((s.getD i 0).toNat:Int):=kI (mkS s) i;have hsp:s.drop kF=(s.drop kF).take (i-kF)++s.getD i 0::s.drop (i+1):=by
    conv=>lhs;rw[←rN2 (i-kF) (s.drop kF)]
    rw[eP2,show kF+(i-kF)=i by omega,nC 0 hlt]
   by_cases hc:((s.getD i 0).toNat:Int)=(c.toNat:Int)
   ·have hc':=(vC2 _ _).1 hc;simp(disch:=omega)only[ss,szS,hbt,uB.l2_eq,hex,gM2,hlim];refine(ih (i+1) (i+1) (y++[mkS ((s.drop kF).take (i-kF))]) (by omega) (by omega) (by omega) (by simp;omega) (by simp)).trans ?_;have hseg:segs c (s.drop kF)=(s.drop kF).take (i-kF)::segs c (s.drop (i+1)):=by
     conv=>lhs;rw[hsp,hc']
     exact yJ hn
    rw[hseg];simp
   ·have hc':¬s.getD i 0=c:=fun q=>hc (by rw[q])
    simp(disch:=omega)only[ss,szS,hbt,uB.l2_eq];refine ih (i+1) kF y (by omega) (by omega) (by omega) (by omega) ?_;rw[show i+1-kF=(i-kF)+1 by omega,kE 0 (show i-kF<(s.drop kF).length by rw[aN2];omega)];have:(s.drop kF).getD (i-kF) 0=s.getD i 0:=by
     rw[dI 0 (show i-kF<(s.drop kF).length by rw[aN2];omega),dI 0 hlt,List.getElem_drop]
     congr 1
     omega
    rw[this];intro q;rcases pM2.1 q with q | q
    ·exact hn q
    ·rw[kN2]at q;exact hc' q.symm
  ·have e:i=s.length:=by omega
   subst e;have ht:(s.drop kF).take (s.length-kF)=s.drop kF:=qO2 (by rw[aN2];omega);rw[ht]at hn hex;simp(disch:=omega)only[ss,szS,uB.l2_eq,hex,gM2,hlim];rw[uB.l1_eq];simp(disch:=omega)only[ss,szS];rw[dK hn];rfl
theorem mL (c:UInt8) (s:List UInt8) (hs:s.length≤1000000):uB.f (mkS s) (c.toNat:Int)=some ((segs c s).map mkS,()):=by rw[uB.f_eq];have:=wU1 c s hs _ 0 0 [] rfl (oM2 _) (iM2 _) (oM2 _) (by simp);rw[tM2]at this;simpa using this
theorem cN (c:UInt8) (l:List UInt8):(segs c l).length≤l.length+1 ∧ ∀s∈segs c l,s.length≤l.length:=by
 suffices h:∀(k:Nat) (l:List UInt8),l.length=k→(segs c l).length≤l.length+1 ∧ ∀s∈segs c l,s.length≤l.length from h _ l rfl
 intro k
 induction k using Nat.strongRecOn with
 | ind k ih=>
  intro l hl;rcases uI (c:=c) (l:=l)with h | ⟨a,b,h,h2⟩
  ·rw[dK h];refine⟨by simp,fun s hs=>?_⟩;rw[kN2]at hs;rw[hs];exact oM2 _
  ·subst h;rw[yJ h2];simp only[cM2,kM2]at hl ⊢;obtain⟨h3,h4⟩:=ih b.length (by omega) b rfl;refine⟨by omega,fun s hs=>?_⟩;rcases jM2.1 hs with rfl | hs
   ·omega
   ·have:=h4 s hs;omega
theorem wZ (c:UInt8) (l:List UInt8):segs c l≠[]:=by
 rcases uI (c:=c) (l:=l)with h | ⟨a,b,h,h2⟩
 ·rw[dK h];simp
 ·subst h;rw[yJ h2];simp
def posF :Int→List (List UInt8)→List UInt8→Int
 | _,[],_=> -1
 | i,w::l,v=>if w=v then i else posF (i+1) l v
theorem bQ :∀(l:List (List UInt8)) (v:List UInt8) (i:Int),0≤i→(0≤posF i l v↔v∈l)∧posF i l v≤i+l.length ∧ -1≤posF i l v∧(posF i l v<0→posF i l v = -1)
 | [],v,i,h=>by simp[posF];omega
 | w::l,v,i,h=>by
  unfold posF;by_cases hw:w=v
  ·rw[if_pos hw];refine⟨⟨fun _=>by rw[hw];exact mM2,fun _=>h⟩,by simp;omega,by omega,by omega⟩
  ·rw[if_neg hw];obtain⟨h1,h2,h3,h4⟩:=bQ l v (i+1) (by omega);refine⟨h1.trans ⟨lM2 _,fun q=>(jM2.1 q).resolve_left fun q=>hw q.symm⟩,by simp;omega,h3,h4⟩
theorem kG1 :∀(l:List (List UInt8)) (v:List UInt8) (i:Int),posF (i+1) l v=if v∈l then posF i l v+1 else -1
 | [],v,i=>by simp[posF]
 | w::l,v,i=>by
  unfold posF;by_cases hw:w=v
  ·rw[if_pos hw,if_pos hw,if_pos (by rw[hw];exact mM2)]
  ·rw[if_neg hw,if_neg hw,kG1 l v (i+1)];by_cases hm:v∈l
   ·rw[if_pos hm,if_pos (lM2 _ hm)]
   ·rw[if_neg hm,if_neg fun q=>hm ((jM2.1 q).resolve_left fun q=>hw q.symm)]
theorem gm (l:List (List UInt8)) (i:Nat) (hi:i<l.length):(l.map mkS).getD i ByteArray.empty=mkS (l.getD i []):=by rw[dI ByteArray.empty (by simpa using hi),dI [] hi,List.getElem_map]
theorem xK (l:List (List UInt8)) (v:List UInt8) (hl:l.length≤1000000):rA.f (l.map mkS) (mkS v)=some (posF 0 l v,()):=by
 have key:∀(k i:Nat),l.length-i=k→i≤l.length→rA.l1 (l.map mkS) (mkS v) l.length i=some (posF i (l.drop i) v,()):=by
  intro k
  induction k with
  | zero=>
   intro i hk hi;have e:i=l.length:=by omega
   subst e;rw[rA.l1_eq,wN2];simp(disch:=omega)only[ss];rfl
  | succ k ih=>
   intro i hk hi;have hlt:i<l.length:=by omega
   have hg:=gm l i hlt;have hml:(l.map mkS).length=l.length:=hM2 ..;rw[rA.l1_eq,nC [] hlt];simp only[mE];simp(disch:=omega)only[ss,hml,hg,posF];by_cases h:l.getD i []=v
   ·rw[if_pos h,dp (by rw[h]),cond_true]
   ·rw[if_neg h,dn fun q=>h (eK q.symm),cond_false];exact ih (i+1) (by omega) (by omega)
 rw[rA.f_eq];have:=key _ 0 rfl (iM2 _);rw[bN2,tM2]at this;rw[hM2];exact this
theorem nK (l:List (List UInt8)) (v:List UInt8) (hl:l.length≤1000000):bC.f (l.map mkS) (mkS v)=some (decide (v∈l),()):=by rw[bC.f_eq,xK l v hl];simp only[eM2];rw[show decide (posF 0 l v≥0)=decide (v∈l)from decide_eq_decide.2 (bQ l v 0 (by omega)).1]
theorem mR (l:List (List UInt8)) (v:List UInt8) (hl:l.length≤1000000):fC.f (l.map mkS) (mkS v)=some (if v=[]then -1 else posF 0 l v,()):=by
 have key:∀(k i:Nat),l.length-i=k→i≤l.length→fC.l1 (l.map mkS) (mkS v) i=some (if v=[]then -1 else posF i (l.drop i) v,()):=by
  intro k
  induction k with
  | zero=>
   intro i hk hi;have e:i=l.length:=by omega
   subst e;have hml:(l.map mkS).length=l.length:=hM2 ..;rw[fC.l1_eq,wN2];simp(disch:=omega)only[ss,hml];by_cases hv:v=[]
   ·rw[if_pos hv]
   ·rw[if_neg hv];rfl
  | succ k ih=>
   intro i hk hi;have hlt:i<l.length:=by omega
   have hg:=gm l i hlt;have hml:(l.map mkS).length=l.length:=hM2 ..;have next:=ih (i+1) (by omega) (by omega)
   rw[fC.l1_eq,nC [] hlt];simp only[mE];simp(disch:=omega)only[ss,hml,hg];have hmt:(⟨#[]⟩:ByteArray)=mkS []:=rfl;rw[hmt];by_cases hv:v=[]
   ·rw[if_pos hv]at next ⊢
    have e2:decide (mkS v=mkS [])=true:=dp (by rw[hv]);rw[e2];by_cases h:mkS (l.getD i [])=mkS v
    ·rw[dp h,cond_true,fC.l2_eq];simp(disch:=omega)only[ss];exact next
    ·rw[dn h,cond_false,fC.l2_eq];simp(disch:=omega)only[ss];exact next
   ·rw[if_neg hv]at next ⊢
    have e2:decide (mkS v=mkS [])=false:=dn fun q=>hv (eK q)
    rw[e2];unfold posF;by_cases h:l.getD i []=v
    ·rw[if_pos h,dp (by rw[h]),cond_true,fC.l2_eq];simp(disch:=omega)only[ss]
    ·rw[if_neg h,dn fun q=>h (eK q),cond_false,fC.l2_eq];simp(disch:=omega)only[ss];exact next
 rw[fC.f_eq];have:=key _ 0 rfl (iM2 _);rw[bN2,tM2]at this;exact this
theorem oK {s:List UInt8} {n m:Int} (h:isN s n) (g:isN s m):n=m:=kZ1 (h.1.symm.trans g.1)
theorem qT1 :∀p:List (List UInt8),(∃ns,All2 isN p ns) ∨ ∃s∈p,∀n,¬isN s n
 | []=>.inl ⟨[],trivial⟩
 | s::p=>by
  by_cases h:∃n,isN s n
  ·obtain⟨n,hn⟩:=h;rcases qT1 p with⟨ns,h2⟩ | ⟨t,ht,h2⟩
   ·exact .inl ⟨n::ns,hn,h2⟩
   ·exact .inr ⟨t,lM2 _ ht,h2⟩
  ·exact .inr ⟨s,mM2,fun n hn=>h ⟨n,hn⟩⟩
theorem vO1 {y:List Int} (hy:y.length≤1000000):∃r,zC.f y=some (r,())∧r.length=y.length∧jM (dds r) ∧ ∀x,x∈dds r↔x∈y:=by
 have hs:zC.f y=some (y.mergeSort fun x y=>decide (x≤y),()):=by rw[zC.f_sem];show(bif decide (List.length y≤wC)then some (List.mergeSort (α:=Int) y (fun x y=>decide (x≤y)),())else none)=_;rw[dp (by simp only[wC];omega),cond_true]
 have hp:(y.mergeSort fun x y=>decide (x≤y)).Perm y:=List.mergeSort_perm y _
 have hso:(y.mergeSort fun x y=>decide (x≤y)).Pairwise (· ≤ ·):=by have:=List.pairwise_mergeSort (le:=fun x y:Int=>decide (x≤y)) (fun a b c h1 h2=>by simp at *;omega) (fun a b=>by simp;omega) y;exact this.imp fun h=>by simpa using h
 generalize y.mergeSort (fun x y=>decide (x≤y))=r at hs hp hso;refine⟨r,hs,hp.length_eq,?_,fun x=>?_⟩
 ·cases r with
  | nil=>exact List.Pairwise.nil
  | cons a r=>exact xF1 r a hso
 ·have e:x∈dds r↔x∈r:=by
   cases r with
   | nil=>exact Iff.rfl
   | cons a r=>
    show x∈a::dd a r↔_;rw[jM2,jM2];have:=sT1 r a x;constructor
    ·rintro(h | h)
     ·exact .inl h
     ·rcases this.1 (.inl h)with h | h
      ·exact .inr h
      ·exact .inl h
    ·rintro(h | h)
     ·exact .inl h
     ·rcases this.2 (.inl h)with h | h
      ·exact .inr h
      ·exact .inl h
  rw[e,hp.mem_iff]
noncomputable def uJ1 (y:List Int):Option (List Int×Bool×Unit):=bif decide ((y.length:Int)>60)then(some ([],false,()))else((zC.f y).bind fun t3=>(jA.f t3.1).bind fun t4=>some (t4.1,true,()))
theorem sF2 (p:List (List UInt8)) (hp:p.length≤100000) (hpl:∀s∈p,s.length≤100000):∀(k i:Nat) (y:List Int),p.length-i=k→i≤p.length→y.length≤i →
  (∀ns,All2 isN (p.drop i) ns→eC.l1 (p.map mkS) p.length i y=uJ1 (y++ns))∧((∃s∈p.drop i,∀n,¬isN s n)→eC.l1 (p.map mkS) p.length i y=some ([],false,())):=by
 have hlim:wC=17179869184:=rfl;have hml:(p.map mkS).length=p.length:=hM2 ..;intro k
 induction k with
 | zero=>
  intro i y hk hi hy;have e:i=p.length:=by omega
  subst e;rw[eC.l1_eq,wN2];simp(disch:=omega)only[ss,hml];refine⟨fun ns hns=>?_,fun⟨s,hs,_⟩=>by cases hs⟩
  cases ns with
  | nil=>rw[qM2];rfl
  | cons _ _=>exact hns.elim
 | succ k ih=>
  intro i y hk hi hy;have hlt:i<p.length:=by omega
  have hg:=gm p i hlt;rw[eC.l1_eq,nC [] hlt];rcases nL (p.getD i []) (by have:=hpl _ (sC [] hlt);omega)with⟨n,hn,hf⟩ | ⟨hn,n,hf⟩
  ·simp(disch:=omega)only[ss,hml,hg,hf,gM2,hlim];obtain⟨h1,h2⟩:=ih (i+1) (y++[n]) (by omega) (by omega) (by simp;omega);refine⟨fun ns hns=>?_,fun⟨s,hs,hs2⟩=>?_⟩
   ·cases ns with
    | nil=>exact hns.elim
    | cons m ns=>
     have e:=oK hns.1 hn;subst e;refine(h1 ns hns.2).trans ?_;rw[rM2];rfl
   ·refine h2 ?_;rcases jM2.1 hs with rfl | hs
    ·exact absurd hn (hs2 n)
    ·exact⟨s,hs,hs2⟩
  ·simp(disch:=omega)only[ss,hml,hg,hf];refine⟨fun ns hns=>?_,fun _=>trivial⟩
   cases ns with
   | nil=>exact hns.elim
   | cons m ns=>exact absurd hns.1 (hn m)
theorem jA2 (p:List (List UInt8)) (hp:p.length≤100000) (hpl:∀s∈p,s.length≤100000):∀(k i:Nat) (y:List Int),p.length-i=k→i≤p.length→y.length≤i →
  (∀ns,All2 isN (p.drop i) ns→rB.l1 (p.map mkS) i y=((pA.f (y++ns)).bind fun t3=>some (t3.1,true,())))∧((∃s∈p.drop i,∀n,¬isN s n)→rB.l1 (p.map mkS) i y=some ([],false,())):=by
 have hlim:wC=17179869184:=rfl;have hml:(p.map mkS).length=p.length:=hM2 ..;intro k
 induction k with
 | zero=>
  intro i y hk hi hy;have e:i=p.length:=by omega
  subst e;rw[rB.l1_eq,wN2];simp(disch:=omega)only[ss,hml];refine⟨fun ns hns=>?_,fun⟨s,hs,_⟩=>by cases hs⟩
  cases ns with
  | nil=>rw[qM2]
  | cons _ _=>exact hns.elim
 | succ k ih=>
  intro i y hk hi hy;have hlt:i<p.length:=by omega
  have hg:=gm p i hlt;rw[rB.l1_eq,nC [] hlt];rcases vJ (p.getD i []) (by have:=hpl _ (sC [] hlt);omega)with⟨n,hn,hf⟩ | ⟨hn,n,hf⟩
  ·simp(disch:=omega)only[ss,hml,hg,hf,gM2,hlim];obtain⟨h1,h2⟩:=ih (i+1) (y++[n]) (by omega) (by omega) (by simp;omega);refine⟨fun ns hns=>?_,fun⟨s,hs,hs2⟩=>?_⟩
   ·cases ns with
    | nil=>exact hns.elim
    | cons m ns=>
     have e:=oK hns.1 hn;subst e;refine(h1 ns hns.2).trans ?_;rw[rM2];rfl
   ·refine h2 ?_;rcases jM2.1 hs with rfl | hs
    ·exact absurd hn (hs2 n)
    ·exact⟨s,hs,hs2⟩
  ·simp(disch:=omega)only[ss,hml,hg,hf];refine⟨fun ns hns=>?_,fun _=>trivial⟩
   cases ns with
   | nil=>exact hns.elim
   | cons m ns=>exact absurd hns.1 (hn m)
theorem aS {α β:Type} {R:α→β→Prop}:∀{l:List α} {m:List β},All2 R l m→l.length=m.length
 | [],[],_=>rfl
 | _::l,_::m,h=>by simp[aS h.2]
 | [],_::_,h=>h.elim
 | _::_,[],h=>h.elim
def isL (v:List UInt8) (r:List Int):Prop:=(jM r∧r.length≤60) ∧ ∃ns,All2 isN (segs 44 v) ns∧ns.length≤60 ∧ ∀x,x∈r↔x∈ns
theorem fC2 :∀(l:List Int) (p:Int),(dd p l).length≤l.length
 | [],_=>oM2 _
 | a::l,p=>by unfold dd;have:=fC2 l a;split <;> simp <;> omega
theorem uD2 (l:List Int):(dds l).length≤l.length:=by
 cases l with
 | nil=>exact oM2 _
 | cons a l=>show(a::dd a l).length≤_;simp[fC2]
theorem zI (v:List UInt8) (hv:v.length≤50000):
  (∃r,isL v r∧eC.f (mkS v)=some (r,true,())∧rB.f (mkS v)=some (r,true,())) ∨
  ((∀r,¬isL v r)∧eC.f (mkS v)=some ([],false,())∧rB.f (mkS v)=some ([],false,())):=by
 have hsl:=cN 44 v;have hS:pD.f (mkS v) ⟨#[44]⟩=some ((segs 44 v).map mkS,()):=uJ (c:=44) v (by omega);have hV:uB.f (mkS v) 44=some ((segs 44 v).map mkS,()):=mL 44 v (by omega);have hml:((segs 44 v).map mkS).length=(segs 44 v).length:=hM2 ..;have h1:=sF2 (segs 44 v) (by omega) (fun s hs=>by have:=hsl.2 s hs;omega) _ 0 [] rfl (iM2 _) (oM2 _);have h2:=jA2 (segs 44 v) (by omega) (fun s hs=>by have:=hsl.2 s hs;omega) _ 0 [] rfl (iM2 _) (oM2 _);rw[bN2,tM2]at h1 h2;have hf1:eC.f (mkS v)=eC.l1 ((segs 44 v).map mkS) (segs 44 v).length 0 []:=by rw[eC.f_eq,hS,←hml];rfl
 have hf2:rB.f (mkS v)=bif decide (((segs 44 v).length:Int)>60)then some ([],false,())else rB.l1 ((segs 44 v).map mkS) 0 []:=by rw[rB.f_eq,hV,←hml];rfl
 rcases qT1 (segs 44 v)with⟨ns,hns⟩ | hbad
 ·have hlen:=aS hns;have e1:=h1.1 ns hns;have e2:=h2.1 ns hns;rw[lN2]at e1 e2;by_cases h60:(ns.length:Int)>60
  ·refine .inr ⟨fun r hr=>?_,?_,?_⟩
   ·obtain⟨_,ms,h3,h4,_⟩:=hr;have:=aS h3;omega
   ·rw[hf1,e1];unfold uJ1;simp(disch:=omega)only[ss]
   ·rw[hf2];simp(disch:=omega)only[ss]
  ·obtain⟨r,h3,h4,h5,h6⟩:=vO1 (y:=ns) (by omega);obtain⟨q,h7,h8,h9⟩:=cZ ns (by omega);have e:q=dds r:=mT h8 h5 fun x=>(h9 x).trans (h6 x).symm
   subst e;refine .inl ⟨dds r,⟨⟨h5,by have:=uD2 r;omega⟩,ns,hns,by omega,h6⟩,?_,?_⟩
   ·rw[hf1,e1];unfold uJ1;simp(disch:=omega)only[ss,h3,oU r (by omega)]
   ·rw[hf2,e2];simp(disch:=omega)only[ss,h7]
 ·refine .inr ⟨fun r hr=>?_,?_,?_⟩
  ·obtain⟨_,ms,h3,_,_⟩:=hr;obtain⟨s,hs,hs2⟩:=hbad;have:∀(p:List (List UInt8)) (ms:List Int),All2 isN p ms→s∈p → ∃n,isN s n:=by
    intro p
    induction p with
    | nil=>intro ms _ h;cases h
    | cons t p ih=>
     intro ms h hm
     cases ms with
     | nil=>exact h.elim
     | cons m ms=>
      rcases jM2.1 hm with rfl | hm
      ·exact⟨m,h.1⟩
      ·exact ih ms h.2 hm
   obtain⟨n,hn⟩:=this _ ms h3 hs;exact hs2 n hn
  ·rw[hf1,h1.2 hbad]
  ·rw[hf2,h2.2 hbad];cases decide (((segs 44 v).length:Int)>60) <;> rfl
def wd :List (List UInt8):=[[77,79],[84,85],[87,69],[84,72],[70,82],[83,65],[83,85]]
theorem mJ :gG.f=some (wd.map mkS,()):=by rw[gG.f_eq];rfl
theorem iS :oF.f=some (wd.map mkS,()):=by rw[oF.f_eq];rfl
theorem mF1 :∀(l:List (List UInt8)) (v:List UInt8) (i:Int),0≤i→posF i l v<i+l.length
 | [],v,i,h=>by simp[posF];omega
 | w::l,v,i,h=>by
  unfold posF;split
  ·simp;omega
  ·have:=mF1 l v (i+1) (by omega);simp;omega
def isD (s:List UInt8) (n w:Int):Prop:=2≤s.length∧w=posF 0 wd (s.drop (s.length-2))∧0≤w∧((s.take (s.length-2)=[]∧n=0)∨(s.take (s.length-2)≠[]∧isN (s.take (s.length-2)) n∧n≠0))
theorem kD2 {s:List UInt8} {n w:Int} (h:isD s n w):0≤w∧w≤6 ∧ -999999999≤n∧n≤999999999:=by
 obtain⟨_,h2,h3,h4⟩:=h;have h5:=mF1 wd (s.drop (s.length-2)) 0 (by omega);have h6:(wd.length:Int)=7:=rfl;refine⟨h3,by omega,?_⟩;rcases h4 with⟨_,rfl⟩ | ⟨_,h7,_⟩
 ·omega
 ·exact h7.2
theorem gR {s:List UInt8} {n w m v:Int} (h:isD s n w) (g:isD s m v):n=m∧w=v:=by
 obtain⟨_,h2,_,h4⟩:=h;obtain⟨_,g2,_,g4⟩:=g;refine⟨?_,by rw[h2,g2]⟩;rcases h4 with⟨h5,h6⟩ | ⟨h5,h6,_⟩ <;> rcases g4 with⟨g5,g6⟩ | ⟨g5,g6,_⟩
 ·rw[h6,g6]
 ·exact absurd h5 g5
 ·exact absurd g5 h5
 ·exact oK h6 g6
theorem nY1 (s:List UInt8) (hs:s.length≤100000):
  (∃n w,isD s n w∧yO.f (mkS s)=some ((n,w,()),true,()))∨((∀n w,¬isD s n w) ∧ ∃d,yO.f (mkS s)=some (d,false,())):=by
 rw[yO.f_eq];by_cases c1:(s.length:Int)<2
 ·refine .inr ⟨fun n w h=>?_,(0,0,()),?_⟩
  ·have:=h.1;omega
  ·simp(disch:=omega)only[ss,szS]
 ·have w1:w6 ((s.length:Int)-2)=((s.length-2:Nat):Int):=by rw[wr (by omega) (by omega)];omega
  have x1:(mkS s).extract (s.length-2) s.length=mkS (s.drop (s.length-2)):=lI (by rw[←szS s,qL,B_mk,B_mk]);have x2:(mkS s).extract 0 (s.length-2)=mkS (s.take (s.length-2)):=lI (by rw[sO,B_mk,B_mk]);have hI:=xK wd (s.drop (s.length-2)) (by decide);have hm:(⟨#[]⟩:ByteArray)=mkS []:=rfl;simp(disch:=omega)only[ss,szS,w1,x1,x2,mJ,hI,mE,hm];have hp:=(bQ wd (s.drop (s.length-2)) 0 (by omega)).2;by_cases c2:s.take (s.length-2)=[]
  ·have e:decide (mkS (s.take (s.length-2))=mkS [])=true:=dp (by rw[c2]);rw[e,cond_true];by_cases c3:posF 0 wd (s.drop (s.length-2))≥0
   ·rw[dp c3];exact .inl ⟨0,_,⟨by omega,rfl,c3,.inl ⟨c2,rfl⟩⟩,rfl⟩
   ·rw[dn c3];refine .inr ⟨fun n w h=>?_,_,rfl⟩;have h2:=h.2.1;have h3:=h.2.2.1;omega
  ·have e:decide (mkS (s.take (s.length-2))=mkS [])=false:=dn fun q=>c2 (eK q)
   rw[e,cond_false];rcases nL (s.take (s.length-2)) (by rw[sM2];omega)with⟨n,hn,hf⟩ | ⟨hn,n,hf⟩
   ·rw[hf];simp only[eM2,cond_true];by_cases c4:n=0
    ·simp(disch:=omega)only[ss];refine .inr ⟨fun m w h=>?_,_,rfl⟩;rcases h.2.2.2 with⟨h5,_⟩ | ⟨_,h6,h7⟩
     ·exact c2 h5
     ·exact h7 ((oK h6 hn).trans c4)
    ·simp(disch:=omega)only[ss];by_cases c3:posF 0 wd (s.drop (s.length-2))≥0
     ·rw[dp c3];exact .inl ⟨n,_,⟨by omega,rfl,c3,.inr ⟨c2,hn,c4⟩⟩,rfl⟩
     ·rw[dn c3];refine .inr ⟨fun m w h=>?_,_,rfl⟩;have h2:=h.2.1;have h3:=h.2.2.1;omega
   ·rw[hf];simp only[eM2,cond_false];refine .inr ⟨fun m w h=>?_,_,rfl⟩;rcases h.2.2.2 with⟨h5,_⟩ | ⟨_,h6,_⟩
    ·exact c2 h5
    ·exact hn m h6
theorem kL2 (x4:List ByteArray) (x6 x8 x9:Int):fA.l4 x4 x6 x8 x9=fA.l4a x4 x6 x8 x9 []:=by rw[fA.l4_eq,fA.l4a_eq]
theorem bG2 (x4:List ByteArray) (x6 x8 x9:Int) (b:Bool):fA.l3 x4 x6 x8 x9 b=fA.l3a x4 x6 x8 x9 b []:=by rw[fA.l3_eq,fA.l3a_eq,kL2]
theorem xL2 (x4:List ByteArray) (x6 x7 x8 x9:Int) (b:Bool):fA.l2 x4 x6 x7 x8 x9 b=fA.l2a x4 x6 x7 x8 x9 b []:=by rw[fA.l2_eq,fA.l2a_eq,bG2,bG2,bG2]
theorem qL2 (x4:List ByteArray) (x6:Int):fA.l1 x4 x6=fA.l1a x4 x6 []:=by rw[fA.l1_eq,fA.l1a_eq];simp only[xL2]
theorem lW1 (p:List (List UInt8)) (hp:p.length≤100000) (i:Nat) (hi:i<p.length) (hpl:(p.getD i []).length≤100000) (y:List Int) (hy:y.length≤i):
  (∀n w,isD (p.getD i []) n w→fA.l1a (p.map mkS) i y=fA.l1a (p.map mkS) (i+1:Nat) (y++[7*n+w])) ∧
  ((∀n w,¬isD (p.getD i []) n w)→fA.l1a (p.map mkS) i y=some ([],false,())):=by
 have hlim:wC=17179869184:=rfl;have hml:(p.map mkS).length=p.length:=hM2 ..;have hg:=gm p i hi;generalize hs:p.getD i []=s at hg hpl
 have key:fA.l1a (p.map mkS) i y=bif decide ((s.length:Int)<2)then(some ([],false,()))else
   (bif decide (((s.length-2:Nat):Int)>0)then((gE.f (mkS (s.take (s.length-2)))).bind fun t8=>fA.l2a (p.map mkS) i ((s.length-2:Nat):Int) (if s.drop (s.length-2)=[]then -1 else posF 0 wd (s.drop (s.length-2))) t8.1 t8.2.1 y)
    else fA.l2a (p.map mkS) i ((s.length-2:Nat):Int) (if s.drop (s.length-2)=[]then -1 else posF 0 wd (s.drop (s.length-2))) 0 true y):=by
  rw[fA.l1a_eq];by_cases c1:(s.length:Int)<2
  ·simp(disch:=omega)only[ss,hml,hg,szS]
  ·have w1:w6 ((s.length:Int)-2)=((s.length-2:Nat):Int):=by rw[wr (by omega) (by omega)];omega
   have x1:(mkS s).extract (s.length-2) s.length=mkS (s.drop (s.length-2)):=lI (by rw[←szS s,qL,B_mk,B_mk]);have x2:(mkS s).extract 0 (s.length-2)=mkS (s.take (s.length-2)):=lI (by rw[sO,B_mk,B_mk]);have hW:=mR wd (s.drop (s.length-2)) (by decide);simp(disch:=omega)only[ss,hml,hg,szS,w1,x1,iS,hW,x2]
 rw[key];by_cases c1:(s.length:Int)<2
 ·rw[dp c1,cond_true];refine⟨fun n w h=>?_,fun _=>rfl⟩;have:=h.1;omega
 ·rw[dn c1,cond_false]
  have hne:s.drop (s.length-2)≠[]:=fun q=>by have:=congrArg List.length q;rw[aN2,xM2]at this;omega
  rw[if_neg hne];have hp2:=(bQ wd (s.drop (s.length-2)) 0 (by omega)).2;have hp3:=mF1 wd (s.drop (s.length-2)) 0 (by omega);have h7:(wd.length:Int)=7:=rfl;have tail:∀n w,isD s n w→w=posF 0 wd (s.drop (s.length-2))→fA.l3a (p.map mkS) i w n false y=fA.l1a (p.map mkS) (i+1:Nat) (y++[7*n+w]):=by intro n w h _;have hb:=kD2 h;rw[fA.l3a_eq];simp(disch:=omega)only[ss,fA.l4a_eq,gM2,hlim];rfl
  have stop:∀n w,fA.l3a (p.map mkS) i w n true y=some ([],false,()):=fun n w=>by rw[fA.l3a_eq,cond_true]
  by_cases c3:posF 0 wd (s.drop (s.length-2))<0
  ·refine⟨fun n w h=>?_,fun _=>?_⟩
   ·have h2:=h.2.1;have h3:=h.2.2.1;omega
   ·by_cases c2:((s.length-2:Nat):Int)>0
    ·rw[dp c2,cond_true];rcases vJ (s.take (s.length-2)) (by rw[sM2];omega)with⟨n,hn,hf⟩ | ⟨hn,n,hf⟩
     ·simp(disch:=omega)only[ss,hf,fA.l2a_eq,stop]
     ·simp(disch:=omega)only[ss,hf,fA.l2a_eq,stop]
    ·rw[dn c2,cond_false];simp(disch:=omega)only[ss,fA.l2a_eq,stop]
  ·by_cases c2:((s.length-2:Nat):Int)>0
   ·have hnt:s.take (s.length-2)≠[]:=fun q=>by have:=congrArg List.length q;rw[sM2,xM2]at this;omega
    rw[dp c2,cond_true];rcases vJ (s.take (s.length-2)) (by rw[sM2];omega)with⟨n,hn,hf⟩ | ⟨hn,n,hf⟩
    ·simp(disch:=omega)only[ss,hf,fA.l2a_eq];by_cases c4:n=0
     ·rw[dp c4,stop];refine⟨fun m w h=>?_,fun _=>rfl⟩;rcases h.2.2.2 with⟨h5,_⟩ | ⟨_,h6,h8⟩
      ·exact absurd h5 hnt
      ·exact absurd ((oK h6 hn).trans c4) h8
     ·have hD:isD s n (posF 0 wd (s.drop (s.length-2))):=⟨by omega,rfl,by omega,.inr ⟨hnt,hn,c4⟩⟩
      rw[dn c4,tail n _ hD rfl];refine⟨fun m w h=>?_,fun h=>absurd hD (h _ _)⟩;obtain⟨e1,e2⟩:=gR h hD;rw[e1,e2]
    ·simp(disch:=omega)only[ss,hf,fA.l2a_eq,stop];refine⟨fun m w h=>?_,fun _=>trivial⟩;rcases h.2.2.2 with⟨h5,_⟩ | ⟨_,h6,_⟩
     ·exact absurd h5 hnt
     ·exact absurd h6 (hn m)
   ·have hnt:s.take (s.length-2)=[]:=wM2 (by rw[sM2];omega);have hD:isD s 0 (posF 0 wd (s.drop (s.length-2))):=⟨by omega,rfl,by omega,.inl ⟨hnt,rfl⟩⟩
    rw[dn c2,cond_false];simp(disch:=omega)only[ss,fA.l2a_eq];rw[tail 0 _ hD rfl];refine⟨fun m w h=>?_,fun h=>absurd hD (h _ _)⟩;obtain⟨e1,e2⟩:=gR h hD;rw[e1,e2]
end Go.GV.YtidgapgbnlcjgaaGreatDoor
