/-
Part of the words that MeetTexts is proved with: no statement of its own, no conditions.
-/
import Derived.Test.YtegmfagkklekaaaGreatDoorFMeetTextss
import Derived.Lib.ItoaLen
import Derived.Shelf.Strconv.AtoiAll
set_option linter.unusedVariables false
set_option linter.unusedSimpArgs false
namespace Go.GV.YtegmfagkklekaaaGreatDoor
def dval :Nat→List UInt8→Nat
 | a,[]=>a
 | a,c::l=>dval (10*a+(c.toNat-48)) l
theorem rH :∀(l m:List UInt8) (a:Nat),dval a (l++m)=dval (dval a l) m
 | [],_,_=>rfl
 | c::l,m,a=>rH l m _
theorem gG1 :∀(l:List UInt8) (a:Nat),a≤dval a l
 | [],_=>yH2 _
 | c::l,a=>rK2 (by omega) (gG1 l _)
def dig (c:UInt8):Prop:=48≤c.toNat∧c.toNat≤57
theorem of48 {d:Nat} (h:d<10):(UInt8.ofNat (48+d)).toNat=48+d:=by rw[UInt8.toNat_ofNat',dL2 (by omega)]
theorem nE1 :∀(u:Nat),∀c∈Lib.decDigits u,dig c:=by
 intro u
 induction u using Nat.strongRecOn with
 | ind u ih=>
  intro c hc;rw[Lib.decDigits]at hc;by_cases h:u<10
  ·rw[dif_pos h,xI2]at hc;subst hc;unfold dig;rw[of48 h];omega
  ·rw[dif_neg h]at hc;rcases kI2.1 hc with h1 | h1
   ·exact ih (u/10) (by omega) c h1
   ·rw[xI2]at h1;subst h1;unfold dig;rw[of48 (by omega)];omega
theorem rM (u:Nat):dval 0 (Lib.decDigits u)=u:=by
 induction u using Nat.strongRecOn with
 | ind u ih=>
  by_cases h:u<10
  ·have e:Lib.decDigits u=[UInt8.ofNat (48+u)]:=by rw[Lib.decDigits,dif_pos h]
   have h8:=of48 h;rw[e];generalize UInt8.ofNat (48+u)=c at h8;show 10*0+(c.toNat-48)=u;omega
  ·have e:Lib.decDigits u=Lib.decDigits (u/10)++[UInt8.ofNat (48+u%10)]:=by rw[Lib.decDigits,dif_neg h]
   rw[e,rH,ih (u/10) (by omega)];have h8:=of48 (show u%10<10 by omega);generalize UInt8.ofNat (48+u%10)=c at h8;show 10*(u/10)+(c.toNat-48)=u;omega
theorem sL1 (u:Nat):(Lib.decDigits u).length=Lib.nDigits u:=Lib.decDigits_length u
theorem dP1 (u:Nat):0<(Lib.decDigits u).length:=by rw[sL1];exact Lib.nDigits_pos u
theorem D_ne (u:Nat):Lib.decDigits u≠[]:=fun h=>by have:=dP1 u;rw[h]at this;simp at this
theorem fI (u:Nat):(Lib.decDigits u).length≤9↔u≤999999999:=by
 rw[sL1];have up:∀(k u:Nat),u<10 ^ (k+1)→Lib.nDigits u≤k+1:=by
  intro k
  induction k with
  | zero=>intro u h;rw[Lib.nDigits_small (by simpa using h)];omega
  | succ k ih=>
   intro u h;by_cases hu:u<10
   ·rw[Lib.nDigits_small hu];omega
   ·rw[Lib.nDigits_big hu];have:=ih (u/10) (by rw[Nat.pow_succ]at h;omega);omega
 have dn:∀(k u:Nat),10 ^ k≤u→k+1≤Lib.nDigits u:=by
  intro k
  induction k with
  | zero=>intro u h;exact Lib.nDigits_pos u
  | succ k ih=>
   intro u h;have h1:0<10 ^ k:=Nat.pow_pos (by decide);rw[Nat.pow_succ]at h;rw[Lib.nDigits_big (by omega)];have:=ih (u/10) (by omega);omega
 constructor
 ·intro h;refine Nat.le_of_not_lt fun hu=>?_
  have:=dn 9 u (by omega);omega
 ·intro h;exact up 8 u (by omega)
theorem tP1 (u:Nat) (h:u<18446744073709551616):(Lib.decDigits u).length≤20:=by rw[sL1];exact Lib.nDigits_le20 u h
theorem oI1 (l:List UInt8):∀(a:Nat),(∀c∈l,dig c)→dval a l<1844674407370955161→Lib.parseUint10 a l = .ok (dval a l):=by
 induction l with
 | nil=>intro a _ _;rfl
 | cons c l ih=>
  intro a hd hv;have hc:=hd c wH2;have h1:=gG1 l (10*a+(c.toNat-48));have hv:dval (10*a+(c.toNat-48)) l<1844674407370955161:=hv;show _=Lib.NumEnd.ok (dval (10*a+(c.toNat-48)) l);unfold dig at hc;have e:a*10+(c.toNat-48)=10*a+(c.toNat-48):=by omega
  rw[Lib.parseUint10,if_pos hc,if_neg (by omega),if_neg (by omega),e];exact ih _ (fun x hx=>hd x (xH2 _ hx)) hv
def isN (s:List UInt8) (n:Int):Prop:=s=Lib.itoa n ∧ -999999999≤n∧n≤999999999
theorem tG {n:Int} (h:n<0):Lib.itoa n=45::Lib.decDigits n.natAbs:=by unfold Lib.itoa;rw[if_pos h]
theorem fG {n:Int} (h:¬n<0):Lib.itoa n=Lib.decDigits n.toNat:=by unfold Lib.itoa;rw[if_neg h]
theorem yX {u:Nat} {c:UInt8} {r:List UInt8} (h:Lib.decDigits u=c::r):c.toNat≠43∧c.toNat≠45:=by have:=nE1 u c (by rw[h];exact wH2);unfold dig at this;omega
theorem sU1 {n m:Int} (h:Lib.itoa n=Lib.itoa m):n=m:=by
 by_cases h1:n<0
 ·by_cases h2:m<0
  ·rw[tG h1,tG h2]at h;have:=congrArg (dval 0) (dK2 h).2;rw[rM,rM]at this;omega
  ·rw[tG h1,fG h2]at h;exact absurd rfl (yX h.symm).2
 ·by_cases h2:m<0
  ·rw[fG h1,tG h2]at h;exact absurd rfl (yX h).2
  ·rw[fG h1,fG h2]at h;have:=congrArg (dval 0) h;rw[rM,rM]at this;omega
theorem zY {n:Int} (h0: -999999999≤n) (h1:n≤999999999):Lib.atoiAll (Lib.itoa n) = .ok n:=by
 by_cases hn:n<0
 ·rw[tG hn];unfold Lib.atoiAll Lib.parseMag;simp only;have e45:UInt8.toNat 45=45:=rfl;simp only[e45,or_true,if_true,not_true,false_and,if_false,true_and];rw[if_neg (D_ne _),oI1 _ 0 (nE1 _) (by rw[rM];omega),rM];simp only;rw[if_neg (by omega)]
  congr 1
  omega
 ·rw[fG hn]
  cases hD:Lib.decDigits n.toNat with
  | nil=>exact absurd hD (D_ne _)
  | cons c r=>
   obtain⟨q1,q2⟩:=yX hD;unfold Lib.atoiAll Lib.parseMag;simp only;rw[if_neg (show ¬(c.toNat=43∨c.toNat=45)from fun q=>q.elim q1 q2),if_neg (by simp),←hD,oI1 _ 0 (nE1 _) (by rw[rM];omega),rM];simp only;rw[if_neg (by omega),if_neg (fun q=>q2 q.1),if_neg q2]
   congr 1
   omega
theorem qN (n:Int):(((Lib.itoa n).length:Int)-(if n<0 then 1 else 0)≤9) ↔ -999999999≤n∧n≤999999999:=by
 by_cases hn:n<0
 ·rw[tG hn,if_pos hn,zH2];have:=fI n.natAbs;omega
 ·rw[fG hn,if_neg hn];have:=fI n.toNat;omega
open Go.Proofs
theorem szS (l:List UInt8):(mkS l).size=l.length:=by rw[tS,B_mk]
theorem jJ {a b:List UInt8} (h:mkS a=mkS b):a=b:=by have:=congrArg B h;simpa[B_mk]using this
theorem oK1 {d:Nat} (h:d<10):oJ [IntKind.u8.wrap ((48:Int)+(d:Int))]=mkS [UInt8.ofNat (48+d)]:=by refine yH ?_;rw[vO1,B_mk,Go.IntWalk.u8_in _ ⟨by omega,by omega⟩];simp only[uI2,aL2];rw[show((48:Int)+(d:Int)).toNat=48+d by omega]
theorem td10 {n:Int} (h:0≤n):Int.tdiv n 10=n/10:=Int.tdiv_eq_ediv_of_nonneg h
theorem tm10 {n:Int} (h:0≤n):Int.tmod n 10=n%10:=mK2 h
theorem rD2 {n:Int} (h:n≤0):Int.tdiv n 10 = -((-n)/10):=by
 have:Int.tdiv n 10 = -Int.tdiv (-n) 10:=by rw[Int.neg_tdiv,Int.neg_neg]
 rw[this,td10 (by omega)]
theorem sG2 {n:Int} (h:n≤0):Int.tmod n 10 = -((-n)%10):=by
 have:Int.tmod n 10 = -Int.tmod (-n) 10:=by rw[Int.neg_tmod,Int.neg_neg]
 rw[this,tm10 (by omega)]
theorem nG1 :∀(u:Nat),(u:Int)≤9223372036854775807→yD.f (u:Int)=some (mkS (Lib.decDigits u),()):=by
 intro u
 induction u using Nat.strongRecOn with
 | ind u ih=>
  intro hu;rw[yD.f_eq,Lib.decDigits];by_cases h:u<10
  ·rw[dif_pos h];simp(disch:=omega)only[ss];rw[oK1 h]
  ·rw[dif_neg h];have e1:Int.tdiv (u:Int) 10=((u/10:Nat):Int):=by rw[td10 (by omega)];omega
   have e2:Int.tmod (u:Int) 10=((u%10:Nat):Int):=by rw[tm10 (by omega)];omega
   have h1:=ih (u/10) (by omega) (by omega);have h2:=tP1 (u/10) (by omega);simp(disch:=omega)only[ss,e1,e2,h1,szS,oK1 (show u%10<10 by omega),rH2];rw[xD]
theorem xP (n:Int) (h0: -9223372036854775808≤n) (h1:n≤9223372036854775807):yD.f n=some (mkS (Lib.itoa n),()):=by
 by_cases hn:n<0
 ·rw[tG hn,Lib.decDigits,yD.f_eq];have e1:Int.tdiv n 10 = -((n.natAbs/10:Nat):Int):=by rw[rD2 (by omega)];omega
  have e2:Int.tmod n 10 = -((n.natAbs%10:Nat):Int):=by rw[sG2 (by omega)];omega
  have e3:(48:Int) - -((n.natAbs%10:Nat):Int)=48+((n.natAbs%10:Nat):Int):=by omega
  have hm:(⟨#[45]⟩:ByteArray)=mkS [45]:=rfl;by_cases h:n.natAbs<10
  ·have e4:n.natAbs/10=0:=by omega
   rw[dif_pos h];simp(disch:=omega)only[ss,e1,e2,e3,hm,szS,oK1 (show n.natAbs%10<10 by omega),rH2];rw[xD,dL2 h];rfl
  ·have e5:w6 (0-w6 (-((n.natAbs/10:Nat):Int)))=((n.natAbs/10:Nat):Int):=by simp(disch:=omega)only[ss];omega
   have h1:=nG1 (n.natAbs/10) (by omega);have h2:=tP1 (n.natAbs/10) (by omega);have e6:¬(-((n.natAbs/10:Nat):Int))=0:=by omega
   rw[dif_neg h];rw[e1,e2,e5,h1];simp(disch:=omega)only[ss,e3,hm,szS,oK1 (show n.natAbs%10<10 by omega),rH2,xD,oH2];rfl
 ·obtain⟨u,rfl⟩:=wI2 (show 0≤n by omega);rw[nG1 u h1,fG hn];rfl
theorem rJ (n:Int) (h0: -9223372036854775808≤n) (h1:n≤9223372036854775807):kD.f n=some (mkS (Lib.itoa n),()):=by rw[kD.f_sem];show jB2 n=_;unfold jB2;rw[dp h0,dp h1,cond_true,cond_true,pI1 h0 h1];rfl
theorem wT (s:List UInt8) (hs:s.length≤1000000):vG.f (mkS s)=some ((dK (mkS s)).1,(dK (mkS s)).2,()):=by rw[vG.f_sem];show dB2 (mkS s)=_;unfold dB2;rw[dp (by rw[szS];omega),cond_true]
theorem zB1 (s:ByteArray): -9223372036854775808≤(dK s).1∧(dK s).1≤9223372036854775807:=by
 unfold dK
 cases h:Lib.atoiAll s.data.toList with
 | ok v=>exact Lib.atoiAll_bounds h
 | range=>exact Lib.atoiSat_bounds _
 | _=>exact⟨by show(-9223372036854775808:Int)≤0;omega,by show(0:Int)≤9223372036854775807;omega⟩
theorem yR (s:List UInt8) (hs:s.length≤1000000):qE.f (mkS s) ⟨#[45]⟩=some (mkS (if s.head?=some 45 then s.tail else s),()):=by
 have hp:aD.f (mkS s) ⟨#[45]⟩=some (decide (s.head?=some 45),()):=bX s 45;rw[qE.f_eq,pF.f_eq,hp];have hz:(⟨#[45]⟩:ByteArray).size=1:=rfl;by_cases h:s.head?=some 45
 ·have h1:0<s.length:=by cases s with
   | nil=>simp at h
   | cons _ _=>simp
  simp(disch:=omega)only[ss,hz,szS,if_pos h,gJ2];rw[show(mkS s).extract 1 s.length=mkS s.tail from yH (by rw[←szS s,zK,B_mk,B_mk,List.drop_one])]
 ·simp(disch:=omega)only[ss,if_neg h]
theorem bM (s:List UInt8) (hs:s.length≤1000000):
  (∃n,isN s n∧yE.f (mkS s)=some (n,true,()))∨((∀n,¬isN s n) ∧ ∃n,yE.f (mkS s)=some (n,false,())):=by
 have hr:=zB1 (mkS s);have hA:=wT s hs;rw[yE.f_eq,hA];simp only[pH2];have small:∀n,isN s n→dK (mkS s)=(n,true):=by rintro n ⟨rfl,h0,h1⟩;unfold dK;rw[show(mkS (Lib.itoa n)).data.toList=Lib.itoa n from rfl,zY h0 h1]
 generalize hp:dK (mkS s)=p at hr small;obtain⟨n,b⟩:=p;simp only at hr small ⊢
 cases b with
 | false=>exact .inr ⟨fun m hm=>(by have:=small m hm;cases this),n,rfl⟩
 | true=>
  have hI:=rJ n hr.1 hr.2;have hT:=yR s hs;rw[cond_true,hI];simp only[pH2,iE];by_cases he:mkS (Lib.itoa n)=mkS s
  ·have he':=jJ he;rw[dp he,cond_true,hT];simp only[pH2,szS]
   have hl:((if s.head?=some 45 then s.tail else s).length:Int)=(Lib.itoa n).length-(if n<0 then 1 else 0):=by
    rw[←he'];by_cases hn:n<0
    ·rw[tG hn,if_pos hn,if_pos (show(45::Lib.decDigits n.natAbs).head?=some 45 from rfl)];simp
    ·rw[fG hn,if_neg hn,if_neg]
     ·simp
     ·intro q
      cases hD:Lib.decDigits n.toNat with
      | nil=>exact D_ne _ hD
      | cons c r=>
       rw[hD]at q;simp at q;have:=(yX hD).2;rw[q]at this;exact this rfl
   rw[hl];by_cases h9: -999999999≤n∧n≤999999999
   ·rw[dp ((qN n).2 h9)];exact .inl ⟨n,⟨he'.symm,h9⟩,rfl⟩
   ·rw[dn fun q=>h9 ((qN n).1 q)];refine .inr ⟨fun m hm=>?_,n,rfl⟩;have:=small m hm;simp only[Prod.mk.injEq,and_true]at this;subst this;exact h9 hm.2
  ·rw[dn he,cond_false];refine .inr ⟨fun m hm=>?_,n,rfl⟩;have:=small m hm;simp only[Prod.mk.injEq,and_true]at this;subst this;exact he (by rw[hm.1])
theorem eO1 (s:List UInt8) (m:Int) (h0: -9223372036854775808≤m) (h1:m≤9223372036854775807):xA.l6 (mkS s) m=some (m,decide (s=Lib.itoa m),()):=by rw[xA.l6_eq,xP m h0 h1];simp only[pH2,iE];rw[show decide (mkS (Lib.itoa m)=mkS s)=decide (s=Lib.itoa m)from decide_eq_decide.2 ⟨fun h=>(jJ h).symm,fun h=>by rw[←h]⟩]
def kM1 (s:List UInt8) (r:Option (Int×Bool×Unit)):Prop:=∃m b,r=some (m,b,()) ∧ -9223372036854775808≤m∧m≤9223372036854775807∧(b=true→s=Lib.itoa m)
theorem lD2 (s:List UInt8) (neg:Bool) (d:List UInt8) (hd:d.length≤19):∀(k i v:Nat),d.length-i=k→i≤d.length→v≤9223372036854775808 →
  kM1 s (xA.l4 (mkS s) neg (mkS d) (-(v:Int)) i) ∧
  ((∀c∈d.drop i,dig c)→dval v (d.drop i)≤999999999→xA.l4 (mkS s) neg (mkS d) (-(v:Int)) i=xA.l6 (mkS s) (if neg=true then -(dval v (d.drop i):Int)else dval v (d.drop i))):=by
 have fail:∀m:Int,m=0→kM1 s (some (m,false,())):=fun m hm=>⟨m,false,rfl,by omega,by omega,by simp⟩
 have good:∀m:Int,-9223372036854775808≤m→m≤9223372036854775807→kM1 s (xA.l6 (mkS s) m):=fun m h0 h1=>⟨m,_,eO1 s m h0 h1,h0,h1,fun h=>of_decide_eq_true h⟩
 intro k
 induction k with
 | zero=>
  intro i v hk hi hv;have e:i=d.length:=by omega
  subst e;rw[xA.l4_eq,fJ2];simp(disch:=omega)only[ss,szS]
  cases neg with
  | true=>
   simp(disch:=omega)only[ss];exact⟨good _ (by omega) (by omega),fun _ _=>rfl⟩
  | false=>
   simp(disch:=omega)only[ss];by_cases hm:(-(v:Int)) = -9223372036854775808
   ·simp(disch:=omega)only[ss];refine⟨fail 0 rfl,fun _ hq=>absurd hm ?_⟩;have hq:v≤999999999:=hq;clear hm hv good fail;omega
   ·simp(disch:=omega)only[ss];have e2:(0:Int) - -(v:Int)=v:=by omega
    rw[e2];exact⟨good _ (by omega) (by omega),fun _ _=>rfl⟩
 | succ k ih=>
  intro i v hk hi hv;have hlt:i<d.length:=by omega
  have hbt:bt (mkS d) (i:Int)=((d.getD i 0).toNat:Int):=wH (mkS d) i;have hc:=eE2 (d.getD i 0);rw[xA.l4_eq,oC 0 hlt];simp(disch:=omega)only[ss,szS,hbt];by_cases c1:((d.getD i 0).toNat:Int)-48<0
  ·simp(disch:=omega)only[ss,xA.l5_eq];refine⟨fail 0 rfl,fun hq=>?_⟩;have:=hq _ wH2;unfold dig at this;omega
  ·by_cases c2:((d.getD i 0).toNat:Int)-48>9
   ·simp(disch:=omega)only[ss,xA.l5_eq];refine⟨fail 0 rfl,fun hq=>?_⟩;have:=hq _ wH2;unfold dig at this;omega
   ·have e1:Int.tdiv (-9223372036854775808+(((d.getD i 0).toNat:Int)-48)) 10 = -((9223372036854775808-(((d.getD i 0).toNat:Int)-48))/10):=by
     rw[rD2 (by omega)]
     congr 2
     omega
    simp(disch:=omega)only[ss,e1];by_cases c3: -(v:Int) < -((9223372036854775808-(((d.getD i 0).toNat:Int)-48))/10)
    ·simp(disch:=omega)only[ss,xA.l5_eq];refine⟨fail 0 rfl,fun hq hv2=>?_⟩;have h1:=gG1 (d.drop (i+1)) (10*v+((d.getD i 0).toNat-48));have hv2:dval (10*v+((d.getD i 0).toNat-48)) (d.drop (i+1))≤999999999:=hv2;omega
    ·have e2:(10:Int) * -(v:Int)-(((d.getD i 0).toNat:Int)-48) = -((10*v+((d.getD i 0).toNat-48):Nat):Int):=by omega
     simp(disch:=omega)only[ss,xA.l5_eq];rw[e2];obtain⟨h1,h2⟩:=ih (i+1) (10*v+((d.getD i 0).toNat-48)) (by omega) (by omega) (by omega);exact⟨h1,fun hq hv2=>h2 (fun c hc=>hq c (xH2 _ hc)) hv2⟩
theorem eS1 (s:List UInt8) (neg:Bool) (d:List UInt8):kM1 s (xA.l2 (mkS s) neg (mkS d)) ∧
  ((∀c∈d,dig c)→0<d.length→d.length≤19→dval 0 d≤999999999→xA.l2 (mkS s) neg (mkS d)=xA.l6 (mkS s) (if neg=true then -(dval 0 d:Int)else dval 0 d)):=by
 have fail:kM1 s (some (0,false,())):=⟨0,false,rfl,by omega,by omega,by simp⟩
 rw[xA.l2_eq];by_cases c1:(d.length:Int)<1
 ·simp(disch:=omega)only[ss,szS,xA.l3_eq];exact⟨fail,fun _ h=>by omega⟩
 ·by_cases c2:(d.length:Int)>19
  ·simp(disch:=omega)only[ss,szS,xA.l3_eq];exact⟨fail,fun _ _ h=>by omega⟩
  ·simp(disch:=omega)only[ss,szS,xA.l3_eq];obtain⟨h1,h2⟩:=lD2 s neg d (by omega) _ 0 0 rfl (uH2 _) (by omega);rw[eI2,Int.neg_zero]at h1 h2;rw[mI2]at h2;exact⟨h1,fun q1 _ _ q2=>h2 q1 q2⟩
theorem vJ1 (s:List UInt8):kM1 s (xA.f (mkS s)) ∧ ∀n,isN s n→xA.f (mkS s)=some (n,true,()):=by
 have hbt:bt (mkS s) 0=((s.getD 0 0).toNat:Int):=wH (mkS s) 0
 cases s with
 | nil=>
  have h0:=eS1 [] false [];rw[xA.f_eq];simp(disch:=omega)only[ss,szS,hI2,eI2,xA.l1_eq];refine⟨h0.1,fun n hn=>?_⟩;obtain⟨h1,_⟩:=hn;unfold Lib.itoa at h1;split at h1
  ·cases h1
  ·exact absurd h1.symm (D_ne _)
 | cons c r=>
  have hg:(c::r).getD 0 0=c:=rfl;rw[hg]at hbt;rw[xA.f_eq];by_cases hc:(c.toNat:Int)=45
  ·have e1:(mkS (c::r)).extract 1 (r.length+1)=mkS r:=yH (by rw[show r.length+1=(mkS (c::r)).size by rw[szS];rfl,zK,B_mk,B_mk];rfl);have h0:=eS1 (c::r) true r;have h45:c=45:=(rA2 c 45 (by decide)).1 (show(c.toNat:Int)=((45:Nat):Int)from hc);simp(disch:=omega)only[ss,szS,zH2,hbt,xA.l1_eq,e1];refine⟨h0.1,fun n hn=>?_⟩;obtain⟨h1,h2,h3⟩:=hn;by_cases hneg:n<0
   ·rw[tG hneg]at h1;have hr:=(dK2 h1).2;have h9:=(fI n.natAbs).2 (by omega);rw[h0.2 (by rw[hr];exact nE1 _) (by rw[hr];exact dP1 _) (by rw[hr];omega) (by rw[hr,rM];omega),if_pos rfl,hr,rM,eO1 _ _ (by omega) (by omega)];have e2: -((n.natAbs:Nat):Int)=n:=by omega
    rw[e2,dp (by rw[tG hneg,h45])]
   ·rw[fG hneg]at h1;exact absurd (by rw[h45];rfl) (yX h1.symm).2
  ·have h0:=eS1 (c::r) false (c::r);simp(disch:=omega)only[ss,szS,zH2,hbt,xA.l1_eq];refine⟨h0.1,fun n hn=>?_⟩;obtain⟨h1,h2,h3⟩:=hn;by_cases hneg:n<0
   ·rw[tG hneg]at h1;have:=(dK2 h1).1;subst this;exact absurd rfl hc
   ·rw[fG hneg]at h1;have h9:=(fI n.toNat).2 (by omega);rw[h0.2 (by rw[h1];exact nE1 _) (by rw[h1];exact dP1 _) (by rw[h1];omega) (by rw[h1,rM];omega),if_neg (by simp),eO1 _ _ (by omega) (by rw[h1,rM];omega)];have e2:((dval 0 (c::r):Nat):Int)=n:=by rw[h1,rM];omega
    rw[e2,dp (by rw[fG hneg,h1])]
theorem gJ (s:List UInt8) (hs:s.length≤1000000):
  (∃n,isN s n∧eE.f (mkS s)=some (n,true,()))∨((∀n,¬isN s n) ∧ ∃n,eE.f (mkS s)=some (n,false,())):=by
 obtain⟨⟨m,b,h1,h2,h3,h4⟩,h5⟩:=vJ1 s;by_cases hn:∃n,isN s n
 ·obtain⟨n,hn⟩:=hn;have h6:=h5 n hn;have h7:=(qN n).2 hn.2;rw[←hn.1]at h7;refine .inl ⟨n,hn,?_⟩;rw[eE.f_eq,h6];by_cases c1:n<0
  ·rw[if_pos c1]at h7;simp(disch:=omega)only[ss,szS]
  ·rw[if_neg c1]at h7;simp(disch:=omega)only[ss,szS]
 ·refine .inr ⟨fun n h=>hn ⟨n,h⟩,m,?_⟩;rw[eE.f_eq,h1]
  cases b with
  | false=>
   by_cases c1:m<0
   ·simp(disch:=omega)only[ss]
   ·simp(disch:=omega)only[ss]
  | true=>
   have he:=h4 rfl;have h7:¬((s.length:Int)-(if m<0 then 1 else 0)≤9):=fun q=>hn ⟨m,he,(qN m).1 (by rw[←he];exact q)⟩
   by_cases c1:m<0
   ·rw[if_pos c1]at h7;simp(disch:=omega)only[ss,szS]
   ·rw[if_neg c1]at h7;simp(disch:=omega)only[ss,szS]
def chr (l:List UInt8) (i:Nat):Nat:=(l.getD i 0).toNat
def plB (c:Nat):Bool:=decide (32≤c)&&decide (c≤126)
def sM (l:List UInt8) (i:Nat):Bool:=decide (chr l i=10)||(decide (chr l i=13)&&(decide (i+1<l.length)&&decide (chr l (i+1)=10)))
def bad (l:List UInt8) (i:Nat):Bool:=(!plB (chr l i) && !sM l i)||(decide (i=0)&&decide (chr l i=32))
theorem aT (l:List UInt8) (i:Nat):(I l).getD i 0=(chr l i:Int):=xE2 l i
theorem qK1 (c:Nat):yJ.f (c:Int)=some (plB c,()):=by
 rw[yJ.f_eq];by_cases h:32≤c
 ·simp(disch:=omega)only[ss,plB,Bool.true_and];by_cases h2:c≤126 <;> simp(disch:=omega)only[ss]
 ·simp(disch:=omega)only[ss,plB,Bool.false_and]
theorem kR (l:List UInt8) (i:Nat) (hi:i<l.length) (hl:l.length<4611686018427387904):
  yB.l1 (I l) (I l) (l.length:Int) i=if bad l i=true then some ((i:Int),())else yB.l1 (I l) (I l) (l.length:Int) ((i+1:Nat):Int):=by
 obtain⟨X,hX⟩:∃X,X=(if bad l i=true then some ((i:Int),())else yB.l1 (I l) (I l) (l.length:Int) ((i+1:Nat):Int)):=⟨_,rfl⟩
 rw[←hX];have h3:∀b:Bool,b=bad l i→yB.l3 (I l) i (I l) (l.length:Int) i b=X:=by
  rintro b rfl;rw[yB.l3_eq,hX];cases bad l i
  ·simp(disch:=omega)only[ss,hJ2,gJ2];rfl
  ·rfl
 have key:∀e:Bool,e=sM l i→yB.l2 (I l) i (chr l i) e (I l) (l.length:Int) i=X:=by
  rintro e rfl;rw[yB.l2_eq,qK1];simp only[pH2];cases hp:plB (chr l i)with
  | true=>
   by_cases h0:i=0
   ·by_cases hc:chr l i=32
    ·simp(disch:=omega)only[ss];exact h3 true (by unfold bad;simp(disch:=omega)only[ss,hp])
    ·simp(disch:=omega)only[ss];exact h3 false (by unfold bad;simp(disch:=omega)only[ss,hp])
   ·simp(disch:=omega)only[ss];exact h3 false (by unfold bad;simp(disch:=omega)only[ss,hp])
  | false=>
   cases he:sM l i with
   | false=>
    simp(disch:=omega)only[ss];exact h3 true (by unfold bad;simp(disch:=omega)only[ss,hp,he])
   | true=>
    by_cases h0:i=0
    ·by_cases hc:chr l i=32
     ·simp(disch:=omega)only[ss];exact h3 true (by unfold bad;simp(disch:=omega)only[ss,hp,he])
     ·simp(disch:=omega)only[ss];exact h3 false (by unfold bad;simp(disch:=omega)only[ss,hp,he])
    ·simp(disch:=omega)only[ss];exact h3 false (by unfold bad;simp(disch:=omega)only[ss,hp,he])
 rw[yB.l1_eq];simp(disch:=omega)only[ss,uG,aT];by_cases h10:chr l i=10
 ·simp(disch:=omega)only[ss];exact key true (by unfold sM;simp(disch:=omega)only[ss,Bool.true_or])
 ·simp(disch:=omega)only[ss];by_cases h13:chr l i=13
  ·simp(disch:=omega)only[ss];by_cases hn:i+1<l.length
   ·have hw:((i:Int)+1).toNat=i+1:=by omega
    simp(disch:=omega)only[ss,hw,aT];by_cases hc:chr l (i+1)=10
    ·simp(disch:=omega)only[ss];exact key true (by unfold sM;simp(disch:=omega)only[ss,Bool.true_and,Bool.or_true])
    ·simp(disch:=omega)only[ss];exact key false (by unfold sM;simp(disch:=omega)only[ss,Bool.true_and,Bool.or_false])
   ·simp(disch:=omega)only[ss];exact key false (by unfold sM;simp(disch:=omega)only[ss,Bool.true_and,Bool.false_and,Bool.or_false])
  ·simp(disch:=omega)only[ss];exact key false (by unfold sM;simp(disch:=omega)only[ss,Bool.false_and,Bool.or_false])
theorem jL1 {l:List UInt8} (hl:l.length<4611686018427387904) (h:∀i,i<l.length→bad l i=false):yB.f (I l)=some (-1,()):=by
 rw[yB.f_eq,uG]
 have:=mH (fun i:Nat=>yB.l1 (I l) (I l) (l.length:Int) i) (k:=l.length) (i:=0) (uH2 _) fun j _ hj=>by rw[kR l j hj hl,if_neg (by rw[h j hj];decide)]
 refine this.trans ?_;show yB.l1 (I l) (I l) (l.length:Int) ((l.length:Nat):Int)=_;rw[yB.l1_eq];simp(disch:=omega)only[ss]
theorem mT1 {l:List UInt8} (hl:l.length<4611686018427387904) {k:Nat} (hk:k<l.length) (hb:bad l k=true) (h:∀i,i<k→bad l i=false):yB.f (I l)=some ((k:Int),()):=by
 rw[yB.f_eq,uG]
 have:=mH (fun i:Nat=>yB.l1 (I l) (I l) (l.length:Int) i) (k:=k) (i:=0) (uH2 _) fun j _ hj=>by rw[kR l j (by omega) hl,if_neg (by rw[h j hj];decide)]
 refine this.trans ?_;show yB.l1 (I l) (I l) (l.length:Int) ((k:Nat):Int)=_;rw[kR l k hk hl,if_pos hb]
def eG (s:List UInt8):List UInt8:=if s.getLast?=some 13 then s.dropLast else s
def glue (acc:List (List UInt8)) (t:List UInt8):List (List UInt8):=if t.head?=some 32 then acc.dropLast++[acc.getLast?.getD []++t.tail]else acc++[t]
def fN (acc raw:List (List UInt8)):List (List UInt8):=raw.foldl (fun acc s=>glue acc (eG s)) acc
def zF (l:List UInt8):List (List UInt8):=if(segs 10 l).getLast?=some []then(segs 10 l).dropLast else segs 10 l
def totF (l:List (List UInt8)):Nat:=(l.map List.length).sum
theorem yI (a b:List (List UInt8)):totF (a++b)=totF a+totF b:=by simp[totF]
theorem nJ (a:List UInt8) (b:List (List UInt8)):totF (a::b)=a.length+totF b:=by simp[totF]
theorem oT (s:List UInt8):(eG s).length≤s.length:=by
 unfold eG;split
 ·simp
 ·exact yH2 _
theorem lW {l:List UInt8} (h:10∉l):zF l=if l=[]then []else [l]:=by unfold zF;rw[mK h];by_cases hl:l=[] <;> simp[hl]
theorem eV {a b:List UInt8} (h:10∉a):zF (a++10::b)=a::zF b:=by
 unfold zF;rw[iK h];have hne:=lU 10 b
 cases hs:segs 10 b with
 | nil=>exact absurd hs hne
 | cons x xs=>
  rw[List.getLast?_cons_cons];split
  ·rw[List.dropLast_cons_of_ne_nil (by simp)]
  ·rfl
theorem sU (c:UInt8):∀l,totF (segs c l)+(segs c l).length=l.length+1
 | []=>by simp[segs,totF]
 | b::l=>by
  have ih:=sU c l;have hne:=lU c l;simp only[segs];split
  ·rw[nJ];simp;omega
  ·cases hs:segs c l with
   | nil=>exact absurd hs hne
   | cons x xs=>
    rw[hs]at ih;rw[nJ]at ih ⊢;simp at ih ⊢;omega
theorem dR (l:List UInt8):totF (zF l)+(zF l).length≤l.length+1:=by
 have h:=sU 10 l;unfold zF;split
 ·rename_i hl;rcases pK2 (segs 10 l)with he | ⟨x,y,he⟩
  ·rw[he]at hl;cases hl
  ·rw[fL2]at he;rw[he]at h ⊢;rw[List.dropLast_concat];rw[yI]at h;simp at h;omega
 ·omega
theorem iV (acc:List (List UInt8)) (b:List UInt8):(((acc++[b]).map mkS).getD acc.length ByteArray.empty)=mkS b:=by simp[qH2]
theorem hN1 (raw:List (List UInt8)) (i:Nat) (hi:i<raw.length) (acc:List (List UInt8)) (hz:totF acc+(raw.getD i []).length<100000) (hl:acc.length<100000) (hr:raw.length<100000) (hacc:acc=[]→(eG (raw.getD i [])).head?≠some 32):
  lC.l2 (raw.map mkS) (raw.length:Int) i (acc.map mkS)=lC.l2 (raw.map mkS) (raw.length:Int) ((i+1:Nat):Int) ((glue acc (eG (raw.getD i []))).map mkS):=by
 obtain⟨X,hX⟩:∃X,X=lC.l2 (raw.map mkS) (raw.length:Int) ((i+1:Nat):Int) ((glue acc (eG (raw.getD i []))).map mkS):=⟨_,rfl⟩
 rw[←hX,lC.l2_eq];have hz2:=oT (raw.getD i []);simp(disch:=omega)only[ss,tH2];rw[xK mkS raw i [] _ hi,show(⟨#[13]⟩:ByteArray)=mkS [13]from rfl,show(⟨#[32]⟩:ByteArray)=mkS [32]from rfl,iX _ _ (by omega)];simp(disch:=omega)only[ss];rw[show(if(raw.getD i []).getLast?=some 13 then(raw.getD i []).dropLast else raw.getD i [])=eG (raw.getD i [])from rfl,mB1];generalize eG (raw.getD i [])=t at *;by_cases ht:t.head?=some 32
 ·rw[dp ht];rcases pK2 acc with rfl | ⟨a,b,he⟩
  ·exact absurd ht (hacc rfl)
  ·rw[fL2]at he;subst he;have hlen:(a++[b]).length=a.length+1:=by simp
   obtain⟨t',rfl⟩:∃t',t=32::t':=by cases t with
    | nil=>cases ht
    | cons x y=>simp at ht;exact⟨y,by rw[ht]⟩
   rw[yI,nJ]at hz;have hlt:(32::t').length=t'.length+1:=rfl;have e1:(mkS (32::t')).extract 1 (mkS (32::t')).size=mkS t':=yH (by rw[zK];rfl);have hw:w6 (((a.length+1:Nat):Int)-1)=(a.length:Int):=by rw[wr (by omega) (by omega)];omega
   rw[hlen,Nat.add_sub_cancel,e1,iV,xD];simp(disch:=omega)only[ss,szS,hlt];rw[hX];unfold glue;rw[if_pos ht];simp[List.set_append_right]
 ·rw[dn ht];have hlim:uC=17179869184:=rfl;simp(disch:=omega)only[ss,zH2,hI2];rw[hX];unfold glue;rw[if_neg ht];simp
theorem wC1 (acc:List (List UInt8)) (t:List UInt8):totF (glue acc t)≤totF acc+t.length∧(glue acc t).length≤acc.length+1∧glue acc t≠[]:=by
 unfold glue;split
 ·rcases pK2 acc with rfl | ⟨a,b,he⟩
  ·simp[totF]
  ·rw[fL2]at he;subst he;rw[List.dropLast_concat,yI,yI];simp[totF];omega
 ·rw[yI];simp[totF]
theorem cW1 (raw:List (List UInt8)) (hr:raw.length<50000):∀(k i:Nat) (acc:List (List UInt8)),raw.length-i=k→i≤raw.length→totF acc+totF (raw.drop i)<50000→acc.length+k<60000→(acc=[] → ∀s,raw[i]?=some s→(eG s).head?≠some 32) →
  lC.l2 (raw.map mkS) (raw.length:Int) i (acc.map mkS)=some ((fN acc (raw.drop i)).map mkS,0,0,()):=by
 intro k
 induction k with
 | zero=>
  intro i acc hk hi _ _ _;have e:i=raw.length:=by omega
  subst e;rw[lC.l2_eq,fJ2];simp(disch:=omega)only[ss];rfl
 | succ k ih=>
  intro i acc hk hi ht hl hacc;have hlt:i<raw.length:=by omega
  have hg:raw[i]?=some (raw.getD i []):=by simp[qH2,hlt]
  have hd:=oQ raw i [] hlt;rw[hd,nJ]at ht;rw[hN1 raw i hlt acc (by omega) (by omega) (by omega) (fun h=>hacc h _ hg)];obtain⟨g1,g2,g3⟩:=wC1 acc (eG (raw.getD i []));have g4:=oT (raw.getD i []);rw[ih (i+1) (glue acc (eG (raw.getD i []))) (by omega) (by omega) (by omega) (by omega) (fun h=>absurd h g3),hd];rfl
theorem tO {l:List UInt8} (h:4096<l.length):lC.f (I l)=some ([],0,3,()):=by rw[lC.f_eq,uG];simp(disch:=omega)only[ss]
theorem qR {l:List UInt8} (hl:l.length≤4096) {k:Nat} (hk:k<l.length) (hb:bad l k=true) (h:∀i,i<k→bad l i=false):lC.f (I l)=some ([],(k:Int),4,()):=by rw[lC.f_eq,uG,mT1 (by omega) hk hb h];simp(disch:=omega)only[ss]
theorem eW {l:List UInt8} (h:∀i,i<l.length→bad l i=false):∀s,(zF l)[0]?=some s→(eG s).head?≠some 32:=by
 have key:∀s r,l=s++r→(eG s).head?≠some 32:=by
  intro s r e hh;have h1:s.head?=some 32:=by
   unfold eG at hh;split at hh
   ·cases s with
    | nil=>cases hh
    | cons x y=>cases y with
     | nil=>cases hh
     | cons z w=>simpa using hh
   ·exact hh
  cases s with
  | nil=>cases h1
  | cons x y=>
   simp at h1;subst h1;have:=h 0 (by rw[e];simp);rw[e]at this;simp[bad,chr]at this
 intro s hs;rcases iI (c:=10) (l:=l)with h1 | ⟨a,b,h2,h3⟩
 ·rw[lW h1]at hs;by_cases hl:l=[]
  ·simp[hl]at hs
  ·simp[hl]at hs;exact key s [] (by simp[hs])
 ·rw[h2,eV h3]at hs;simp at hs;exact key s (10::b) (by rw[h2,hs])
theorem iM {l:List UInt8} (hl:l.length≤4096) (h:∀i,i<l.length→bad l i=false):lC.f (I l)=some ((fN [] (zF l)).map mkS,0,0,()):=by
 have hne:=lU 10 l;have htot:=sU 10 l;have hpt:=dR l;have hfin:lC.l1 ((zF l).map mkS)=some ((fN [] (zF l)).map mkS,0,0,()):=by rw[lC.l1_eq,tH2];have:=cW1 (zF l) (by omega) (zF l).length 0 [] rfl (uH2 _) (by rw[mI2];simp only[totF,aL2,List.sum_nil];unfold totF at hpt;omega) (by simp;omega) (fun _=>eW h);rw[mI2]at this;exact this
 rw[lC.f_eq,uG,jL1 (by omega) h,uA1,show(⟨#[10]⟩:ByteArray)=mkS [10]from rfl,show(⟨#[]⟩:ByteArray)=mkS []from rfl];simp(disch:=omega)only[ss];rw[nK l (by omega)];rcases pK2 (segs 10 l)with he | ⟨x,y,he⟩
 ·exact absurd he hne
 ·rw[fL2]at he
  have hp:zF l=if y=[]then x else x++[y]:=by unfold zF;rw[he];simp
  have hlen:((x++[y]).map mkS).length=x.length+1:=by simp
  rw[he]at htot ⊢;rw[yI]at htot;simp at htot;have hw:w6 (((x.length+1:Nat):Int)-1)=(x.length:Int):=by rw[wr (by omega) (by omega)];omega
  simp(disch:=omega)only[ss,hlen,hw];rw[iV,iE];by_cases hy:y=[]
  ·subst hy;rw[if_pos rfl]at hp;rw[hp]at hfin ⊢;simp(disch:=omega)only[ss];have e3:(((x++[([]:List UInt8)]).map mkS).take x.length:List ByteArray)=x.map mkS:=by simp
   rw[e3];exact hfin
  ·rw[if_neg hy]at hp;rw[hp]at hfin ⊢;rw[dn (fun e=>hy (by have:=congrArg B e;simpa[B_mk]using this))];exact hfin
theorem cN (l:List UInt8):4096<l.length∨(l.length≤4096 ∧ ∃k,k<l.length∧bad l k=true ∧ ∀i,i<k→bad l i=false)∨(l.length≤4096 ∧ ∀i,i<l.length→bad l i=false):=by
 by_cases h:4096<l.length
 ·exact .inl h
 ·rcases qQ (bad l) l.length with h1 | ⟨k,h1,h2,h3⟩
  ·exact .inr (.inr ⟨by omega,h1⟩)
  ·exact .inr (.inl ⟨by omega,k,h1,h2,h3⟩)
theorem jC1 (l:List UInt8) (i:Nat) (hi:i<l.length) (hl:l.length<4611686018427387904):
  cA.l1 (I l) i=if bad l i=true then some ([],(i:Int),4,())else cA.l1 (I l) ((i+1:Nat):Int):=by
 obtain⟨X,hX⟩:∃X,X=(if bad l i=true then some (([]:List ByteArray),(i:Int),(4:Int),())else cA.l1 (I l) ((i+1:Nat):Int)):=⟨_,rfl⟩
 rw[←hX];have h3:∀b:Bool,b=bad l i→cA.l3 (I l) i b=X:=by
  rintro b rfl;rw[cA.l3_eq,hX];cases bad l i
  ·simp(disch:=omega)only[ss,hJ2,gJ2];rfl
  ·rfl
 have key:∀e:Bool,e=(plB (chr l i)||sM l i)→cA.l2 (I l) i e=X:=by
  rintro e rfl;rw[cA.l2_eq];simp only[uG,aT,oJ2];cases hp:(plB (chr l i)||sM l i)with
  | true=>
   have hb:bad l i=(decide (i=0)&&decide (chr l i=32)):=by unfold bad;cases h1:plB (chr l i) <;> cases h2:sM l i <;> simp_all
   by_cases h0:i=0
   ·by_cases hc:chr l i=32
    ·simp(disch:=omega)only[ss];exact h3 true (by rw[hb];simp(disch:=omega)only[ss])
    ·simp(disch:=omega)only[ss];exact h3 false (by rw[hb];simp(disch:=omega)only[ss])
   ·simp(disch:=omega)only[ss];exact h3 false (by rw[hb];simp(disch:=omega)only[ss])
  | false=>
   have hb:bad l i=true:=by unfold bad;cases h1:plB (chr l i) <;> cases h2:sM l i <;> simp_all
   simp(disch:=omega)only[ss];exact h3 true hb.symm
 rw[cA.l1_eq]
 have htail:∀b:Bool,plB (chr l i)=false→(bif decide ((chr l i:Int)=10)then cA.l2 (I l) i true else
   bif decide ((chr l i:Int)=13)then(bif decide ((i:Int)+1<(l.length:Int))then cA.l2 (I l) i (decide ((chr l (i+1):Int)=10))else cA.l2 (I l) i false)else cA.l2 (I l) i false)=X:=by
  intro _ hp;by_cases h10:chr l i=10
  ·simp(disch:=omega)only[ss];exact key true (by unfold sM;simp(disch:=omega)only[ss,hp])
  ·simp(disch:=omega)only[ss];by_cases h13:chr l i=13
   ·simp(disch:=omega)only[ss];by_cases hn:i+1<l.length
    ·simp(disch:=omega)only[ss];by_cases hc:chr l (i+1)=10
     ·simp(disch:=omega)only[ss];exact key true (by unfold sM;simp(disch:=omega)only[ss,hp])
     ·simp(disch:=omega)only[ss];exact key false (by unfold sM;simp(disch:=omega)only[ss,hp])
    ·simp(disch:=omega)only[ss];exact key false (by unfold sM;simp(disch:=omega)only[ss,hp])
   ·simp(disch:=omega)only[ss];exact key false (by unfold sM;simp(disch:=omega)only[ss,hp])
 have hw:((i:Int)+1).toNat=i+1:=by omega
 by_cases h32:32≤chr l i
 ·by_cases h126:chr l i≤126
  ·simp(disch:=omega)only[ss,uG,aT];exact key true (by unfold plB;simp(disch:=omega)only[ss])
  ·have hp:plB (chr l i)=false:=by unfold plB;simp(disch:=omega)only[ss]
   have:=htail true hp;by_cases h10:chr l i=10
   ·omega
   ·by_cases h13:chr l i=13
    ·omega
    ·simp(disch:=omega)only[dp,dn,cond_true,cond_false]at this;simp(disch:=omega)only[ss,uG,aT];exact this
 ·have hp:plB (chr l i)=false:=by unfold plB;simp(disch:=omega)only[ss]
  have:=htail true hp;by_cases h10:chr l i=10
  ·simp(disch:=omega)only[dp,dn,cond_true,cond_false]at this;simp(disch:=omega)only[ss,uG,aT];exact this
  ·by_cases h13:chr l i=13
   ·by_cases hn:i+1<l.length
    ·simp(disch:=omega)only[dp,dn,cond_true,cond_false]at this;simp(disch:=omega)only[uG,aT,wr,hw,dp,dn,cond_true,cond_false,oJ2];exact this
    ·simp(disch:=omega)only[dp,dn,cond_true,cond_false]at this;simp(disch:=omega)only[ss,uG,aT];exact this
   ·simp(disch:=omega)only[dp,dn,cond_true,cond_false]at this;simp(disch:=omega)only[ss,uG,aT];exact this
theorem xD2 (l:List UInt8) (i:Nat) (t:List UInt8) (acc:List (List UInt8)) (hi:i≤l.length) (hl:l.length≤4096) (ht:t.length≤4096) (hz:totF acc≤5000) (hla:acc.length≤5000) (hacc:acc=[]→t.head?≠some 32):
  cA.l9 (I l) i (mkS t) (decide (t.head?=some 32)) (acc.map mkS)=cA.l4 (I l) ((i+1:Nat):Int) ((i+1:Nat):Int) ((glue acc t).map mkS):=by
 rw[cA.l9_eq];have hlim:uC=17179869184:=rfl;by_cases h:t.head?=some 32
 ·rw[dp h];rcases pK2 acc with rfl | ⟨a,b,he⟩
  ·exact absurd h (hacc rfl)
  ·rw[fL2]at he;subst he;have hlen:(a++[b]).length=a.length+1:=by simp
   obtain⟨t',rfl⟩:∃t',t=32::t':=by cases t with
    | nil=>cases h
    | cons x y=>simp at h;exact⟨y,by rw[h]⟩
   rw[yI,nJ]at hz;have hlt:(32::t').length=t'.length+1:=rfl;have e1:(mkS (32::t')).extract 1 (t'.length+1)=mkS t':=yH (by rw[←hlt,←szS,zK];rfl);rw[tH2,hlen];have hsb:(mkS b).size=b.length:=szS b;have hst:(mkS t').size=t'.length:=szS t';have hss:(mkS (32::t')).size=t'.length+1:=szS _;simp only[cond_true,qP1,Nat.add_sub_cancel,hss];simp(disch:=omega)only[ss,Nat.add_sub_cancel];simp only[e1,iV];simp(disch:=omega)only[ss,hsb,hst,xD,hJ2,gJ2];unfold glue;rw[if_pos h];simp[List.set_append_right]
 ·rw[dn h];simp(disch:=omega)only[ss,tH2,zH2,hI2,hJ2,gJ2];unfold glue;rw[if_neg h];simp
theorem xH1 (l:List UInt8) (a b:Nat):oJ (((I l).take b).drop a)=mkS ((l.take b).drop a):=by rw[dF2,iE2,uA1]
theorem tK1 (l:List UInt8) (i f tq:Nat) (acc:List (List UInt8)) (hf:f≤tq) (hto:tq≤l.length) (hi:i≤l.length) (hl:l.length≤4096) (hz:totF acc≤5000) (hla:acc.length≤5000) (hacc:acc=[]→((l.take tq).drop f).head?≠some 32):
  cA.l8 (I l) f i tq (acc.map mkS)=cA.l4 (I l) ((i+1:Nat):Int) ((i+1:Nat):Int) ((glue acc ((l.take tq).drop f)).map mkS):=by
 have hsz:((l.take tq).drop f).length=tq-f:=by simp;omega
 rw[←xD2 l i _ acc hi hl (by omega) hz hla hacc,cA.l8_eq];simp only[oJ2,xH1,uG,szS];generalize (l.take tq).drop f=t at *
 cases t with
 | nil=>
  simp at hsz;simp(disch:=omega)only[ss,hI2];rfl
 | cons c r=>
  have hb:bt (mkS (c::r)) 0=(c.toNat:Int):=rfl;have hc:((c.toNat:Int)=32)↔c=32:=rA2 c 32 (by decide);rw[hb];by_cases h:c=32
  ·rw[dp (hc.2 h),dp (show(c::r).head?=some 32 by rw[h];rfl)];simp(disch:=omega)only[ss,zH2]
  ·rw[dn (fun e=>h (hc.1 e)),dn (show ¬(c::r).head?=some 32 from fun e=>h (by simpa using e))];simp(disch:=omega)only[ss,zH2]
theorem bL1 (l:List UInt8) (f:Nat) (acc:List (List UInt8)) (hl:l.length≤4096) {i k:Nat} (hik:i≤k) (hk:k≤l.length) (h:∀j,i≤j→j<k→chr l j≠10):cA.l4 (I l) f i (acc.map mkS)=cA.l4 (I l) f k (acc.map mkS):=by
 refine mH (fun i:Nat=>cA.l4 (I l) f i (acc.map mkS)) hik fun j h1 h2=>?_
 have hc:=h j h1 h2;show cA.l4 (I l) f (j:Nat) (acc.map mkS)=_;rw[cA.l4_eq,aT];simp(disch:=omega)only[ss,uG];rw[cA.l5_eq];simp(disch:=omega)only[ss,hJ2,gJ2]
theorem tT1 (l:List UInt8) (hl:l.length≤4096) (hlast:l.getLast?≠some 13):∀(n f:Nat) (acc:List (List UInt8)),l.length-f=n→f≤l.length→totF acc+(l.length-f)≤4500→acc.length+(l.length-f)≤4500→(acc=[] → ∀s,(zF (l.drop f))[0]?=some s→(eG s).head?≠some 32) →
  cA.l4 (I l) f f (acc.map mkS)=some ((fN acc (zF (l.drop f))).map mkS,0,0,()):=by
 intro n
 induction n using Nat.strongRecOn with
 | ind n ih=>
  intro f acc hn hf hz hla hacc;have hend:∀(y:List (List UInt8)),cA.l4 (I l) ((l.length+1:Nat):Int) ((l.length+1:Nat):Int) (y.map mkS)=some (y.map mkS,0,0,()):=by intro y;rw[cA.l4_eq];simp(disch:=omega)only[ss,uG]
  rcases iI (c:=10) (l:=l.drop f)with h | ⟨a,b,h,ha⟩
  ·have hno:∀j,f≤j→j<l.length→chr l j≠10:=by
    intro j h1 h2 hc;refine h ?_;have:l.getD j 0=10:=UInt8.toNat_inj.1 hc;rw[qH2,aI2 h2]at this;have e:l[j]=10:=this;rw[←e];have:l[j]=(l.drop f)[j-f]'(by simp;omega):=by simp[show f+(j-f)=j by omega]
    rw[this];exact tJ2 _
   rw[bL1 l f acc hl hf (yH2 _) hno,cA.l4_eq,uG];simp(disch:=omega)only[ss];rw[cA.l5_eq];by_cases he:f=l.length
   ·simp(disch:=omega)only[ss];have:=hend acc;rw[hJ2,gJ2]at this;have h0:l.drop f=[]:=by rw[he];simp
    rw[h0];have hfl:(f:Int)=(l.length:Int):=by omega
    have e2:cA.l4 (I l) f ((l.length:Int)+1) (acc.map mkS)=some (acc.map mkS,0,0,()):=by rw[cA.l4_eq];simp(disch:=omega)only[ss,uG]
    rw[e2];simp[zF,segs,fN]
   ·simp(disch:=omega)only[ss];rw[cA.l6_eq,uG];simp(disch:=omega)only[ss];rw[cA.l7_eq];simp(disch:=omega)only[ss];have htk:(l.take l.length).drop f=l.drop f:=by rw[uJ2]
    have hpc:zF (l.drop f)=[l.drop f]:=by rw[lW h,if_neg];intro e;have:=congrArg List.length e;simp at this;omega
    have htr:eG (l.drop f)=l.drop f:=by
     unfold eG;rw[if_neg];rw[List.getLast?_drop];split
     ·simp
     ·exact hlast
    rw[tK1 l l.length f l.length acc hf (yH2 _) (yH2 _) hl (by omega) (by omega) (by
     intro h0;rw[htk,←htr]
     exact hacc h0 _ (by rw[hpc];rfl)),htk,hend,hpc]
    simp only[fN,List.foldl_cons,List.foldl_nil,htr]
  ·have hla2:f+a.length<l.length:=by have:=congrArg List.length h;simp at this;omega
   have hat:∀j,j<a.length→l.getD (f+j) 0=a.getD j 0:=by
    intro j hj;have:(l.drop f).getD j 0=(a++10::b).getD j 0:=by rw[h]
    rw[bH _ _ _ _ hj]at this;rw[←this];simp[qH2]
   have hat10:l.getD (f+a.length) 0=10:=by
    have:(l.drop f).getD a.length 0=(a++10::b).getD a.length 0:=by rw[h]
    simp[qH2]at this;simp[qH2,this]
   have hno:∀j,f≤j→j<f+a.length→chr l j≠10:=by
    intro j h1 h2 hc;have e:=hat (j-f) (by omega);rw[show f+(j-f)=j by omega]at e;have h10:a.getD (j-f) 0=10:=by rw[←e];exact UInt8.toNat_inj.1 hc
    refine ha ?_;rw[qH2,aI2 (by omega)]at h10;have e2:a[j-f]=10:=h10;rw[←e2];exact tJ2 _
   have hb:l.drop (f+a.length+1)=b:=by rw[Nat.add_assoc,←nK2,h];simp[sK2]
   have hta:(l.take (f+a.length)).drop f=a:=by
    have:(l.take (f+a.length)).drop f=(l.drop f).take a.length:=by rw[List.drop_take];congr 1;omega
    rw[this,h];simp
   have hc10:chr l (f+a.length)=10:=by unfold chr;rw[hat10];rfl
   have hblen:b.length=l.length-(f+a.length+1):=by rw[←hb];simp
   have hpc:zF (l.drop f)=a::zF b:=by rw[h,eV ha]
   have hrec:∀acc2,(totF acc2≤totF acc+a.length)→acc2.length≤acc.length+1→acc2≠[]→cA.l4 (I l) ((f+a.length+1:Nat):Int) ((f+a.length+1:Nat):Int) (acc2.map mkS)=some ((fN acc2 (zF b)).map mkS,0,0,()):=by intro acc2 g1 g2 g3;have:=ih (l.length-(f+a.length+1)) (by omega) (f+a.length+1) acc2 rfl (by omega) (by omega) (by omega) (fun e=>absurd e g3);rw[hb]at this;exact this
   rw[bL1 l f acc hl (Nat.le_add_right f a.length) (by omega) hno,cA.l4_eq,aT];simp only[uG];simp(disch:=omega)only[ss,hc10];rw[cA.l5_eq];simp(disch:=omega)only[ss];rw[cA.l6_eq];simp only[uG];obtain⟨g1,g2,g3⟩:=wC1 acc (eG a);have g4:=oT a;have hfin:∀X,X=cA.l4 (I l) ((f+a.length+1:Nat):Int) ((f+a.length+1:Nat):Int) ((glue acc (eG a)).map mkS)→X=some ((fN acc (zF (l.drop f))).map mkS,0,0,()):=by rintro X rfl;rw[hrec _ (by omega) g2 g3,hpc];rfl
   have hhd:acc=[]→(eG a).head?≠some 32:=fun e=>hacc e a (by rw[hpc];rfl)
   by_cases hae:a.length=0
   ·simp(disch:=omega)only[ss];rw[cA.l7_eq];have ha0:a=[]:=iI2 hae;have htr:eG a=a:=by rw[ha0];rfl
    refine hfin _ ?_;have:=tK1 l (f+a.length) f (f+a.length) acc (by omega) (by omega) (by omega) hl (by omega) (by omega) (by rw[hta,←htr];exact hhd);rw[hta]at this;rw[htr];exact this
   ·have hw:((f:Int)+(a.length:Int)-1)=((f+a.length-1:Nat):Int):=by omega
    have hlastc:chr l (f+a.length-1)=(a.getD (a.length-1) 0).toNat:=by have:=hat (a.length-1) (by omega);rw[show f+(a.length-1)=f+a.length-1 by omega]at this;unfold chr;rw[this]
    have hgl:a.getLast?=some (a.getD (a.length-1) 0):=by rw[List.getLast?_eq_getElem?,qH2,aI2 (by omega)];rfl
    simp(disch:=omega)only[ss,hJ2,hw,aT];rw[cA.l7_eq];by_cases h13:chr l (f+a.length-1)=13
    ·have htr:eG a=a.dropLast:=by
      unfold eG;rw[if_pos];rw[hgl]
      congr 1
      exact UInt8.toNat_inj.1 (by rw[←hlastc];exact h13)
     simp(disch:=omega)only[ss,hw];refine hfin _ ?_;have htd:(l.take (f+a.length-1)).drop f=a.dropLast:=by
      have:(l.take (f+a.length-1)).drop f=(l.drop f).take (a.length-1):=by rw[List.drop_take];congr 1;omega
      rw[this,h,qK2 (by omega),List.dropLast_eq_take]
     have:=tK1 l (f+a.length) f (f+a.length-1) acc (by omega) (by omega) (by omega) hl (by omega) (by omega) (by rw[htd,←htr];exact hhd);rw[htd]at this;rw[htr];rw[hJ2]at this;exact this
    ·have htr:eG a=a:=by
      unfold eG;rw[if_neg];rw[hgl];intro e;refine h13 ?_;rw[hlastc];have:a.getD (a.length-1) 0=13:=by simpa using e
      rw[this];rfl
     simp(disch:=omega)only[ss];refine hfin _ ?_;have:=tK1 l (f+a.length) f (f+a.length) acc (by omega) (by omega) (by omega) hl (by omega) (by omega) (by rw[hta,←htr];exact hhd);rw[hta]at this;rw[htr];rw[hJ2]at this;exact this
theorem hS1 {l:List UInt8} (h:∀i,i<l.length→bad l i=false):l.getLast?≠some 13:=by
 intro e;have hne:l≠[]:=by rintro rfl;cases e
 have hpos:=hK2.2 hne;have hc:chr l (l.length-1)=13:=by rw[List.getLast?_eq_getElem?]at e;unfold chr;rw[qH2,e];rfl
 have:=h (l.length-1) (by omega);unfold bad plB sM at this;rw[hc]at this;have h1:¬(l.length-1+1<l.length):=by omega
 rw[dn h1]at this;simp at this
theorem kO1 (l:List UInt8):cA.f (I l)=lC.f (I l):=by
 rcases cN l with h | ⟨h,k,h1,h2,h3⟩ | ⟨h,h1⟩
 ·rw[tO h,cA.f_eq,uG];simp(disch:=omega)only[ss]
 ·rw[qR h h1 h2 h3,cA.f_eq,uG];simp(disch:=omega)only[ss]
  have:=mH (fun i:Nat=>cA.l1 (I l) i) (k:=k) (i:=0) (uH2 _) fun j _ hj=>by rw[jC1 l j (by omega) (by omega),if_neg (by rw[h3 j hj];decide)]
  refine this.trans ?_;show cA.l1 (I l) ((k:Nat):Int)=_;rw[jC1 l k h1 (by omega),if_pos h2]
 ·rw[iM h h1,cA.f_eq,uG];simp(disch:=omega)only[ss]
  have:=mH (fun i:Nat=>cA.l1 (I l) i) (k:=l.length) (i:=0) (uH2 _) fun j _ hj=>by rw[jC1 l j (by omega) (by omega),if_neg (by rw[h1 j hj];decide)]
  refine this.trans ?_;show cA.l1 (I l) ((l.length:Nat):Int)=_;rw[cA.l1_eq,uG];simp(disch:=omega)only[ss];have h4:=tT1 l h (hS1 h1) l.length 0 [] rfl (uH2 _) (by simp[totF];omega) (by simp;omega) (fun _=>by rw[mI2];exact eW h1);rw[mI2]at h4;exact h4
theorem uY1 {a b:List UInt8} {c:UInt8}:chr (a++c::b) a.length=c.toNat:=by simp[chr]
theorem iQ {a b:List UInt8} {j:Nat} (h:j<a.length):chr (a++b) j=chr a j:=by unfold chr;rw[bH _ _ _ _ h]
theorem cL1 {a:List UInt8} {c:UInt8} (h:c∉a) {j:Nat} (hj:j<a.length):chr a j≠c.toNat:=by intro e;refine h ?_;have:a.getD j 0=c:=UInt8.toNat_inj.1 e;rw[qH2,aI2 hj]at this;have e2:a[j]=c:=this;rw[←e2];exact tJ2 hj
theorem dN1 {s:List UInt8} (hs:s.length<4611686018427387904) (h:58∉s):zA.f (mkS s)=some (mkS [],mkS [],mkS [],false,()):=by
 rw[zA.f_eq]
 have:=mH (fun i:Nat=>zA.l1 (mkS s) i) (k:=s.length) (i:=0) (uH2 _) fun j _ hj=>by have hb:bt (mkS s) (j:Int)=(chr s j:Int):=rfl;have hc:=cL1 h hj;have hc2:chr s j≠58:=hc;show zA.l1 (mkS s) (j:Nat)=_;rw[zA.l1_eq,hb];simp(disch:=omega)only[ss,szS,hJ2,gJ2]
 refine this.trans ?_;show zA.l1 (mkS s) ((s.length:Nat):Int)=_;rw[zA.l1_eq];simp(disch:=omega)only[ss,szS];rfl
def mayB (s:List UInt8):Bool:=(s.all fun c=>plB c.toNat)&&(!s.isEmpty && !decide (s.head?=some 32))
theorem yJ1 (s:List UInt8) (i:Nat) (hi:i<s.length) (h:(s.take i).all (fun c=>plB c.toNat)=true) (hc:plB (chr s i)=true):(s.take (i+1)).all (fun c=>plB c.toNat)=true:=by
 rw[List.take_add_one,List.all_append,h];have:s[i]?=some (s.getD i 0):=by simp[qH2,hi]
 rw[this];simp only[Option.toList,lK2,List.all_nil,bL2,Bool.true_and];exact hc
theorem aF1 (s:List UInt8) (i:Nat) (hi:i<s.length) (hc:plB (chr s i)=false):s.all (fun c=>plB c.toNat)=false:=by
 rw[List.all_eq_false]
 exact⟨s.getD i 0,by rw[qH2,aI2 hi];exact tJ2 hi,by
  have:plB (s.getD i 0).toNat=false:=hc;rw[this]
  exact Bool.false_ne_true⟩
theorem rI1 (s:List UInt8) (hs:s≠[]):decide (s.head?=some 32)=decide ((chr s 0:Int)=32):=by
 cases s with
 | nil=>exact absurd rfl hs
 | cons x y=>
  refine decide_eq_decide.2 ?_;have:=rA2 x 32 (by omega);simp only[List.head?_cons,Option.some.injEq];exact this.symm
theorem eQ1 (s:List UInt8) (hs:s.length<4611686018427387904):eH.f (mkS s)=some (mayB s,()):=by
 have key:∀(k i:Nat),s.length-i=k→i≤s.length→(s.take i).all (fun c=>plB c.toNat)=true→eH.l1 (mkS s) (s.length:Int) (i:Int)=some (mayB s,()):=by
  intro k
  induction k with
  | zero=>
   intro i hk hi h;have e:i=s.length:=by omega
   subst e;rw[uJ2]at h;rw[eH.l1_eq,iE,szS];unfold mayB;rw[h]
   cases s with
   | nil=>simp;rfl
   | cons x y=>
    have hne:mkS (x::y)≠(⟨#[]⟩:ByteArray):=fun e=>by have:=congrArg B e;cases this
    have hb:bt (mkS (x::y)) 0=(chr (x::y) 0:Int):=rfl;rw[rI1 _ (by simp),hb,dn hne];have:(x::y).length=y.length+1:=rfl;simp(disch:=omega)only[ss];rfl
  | succ k ih=>
   intro i hk hi h;have hlt:i<s.length:=by omega
   have hb:bt (mkS s) (i:Int)=(chr s i:Int):=rfl;rw[eH.l1_eq,hb,qK1];cases hc:plB (chr s i)with
   | true=>
    simp(disch:=omega)only[ss,szS];exact ih (i+1) (by omega) (by omega) (yJ1 s i hlt h hc)
   | false=>
    simp(disch:=omega)only[ss,szS];unfold mayB;rw[aF1 s i hlt hc];rfl
 rw[eH.f_eq,szS];exact key s.length 0 rfl (uH2 _) rfl
theorem tJ1 (L:List (List UInt8)) (hl:L.length<100000) (hs:∀s∈L,s.length<100000) {k:Nat} (hk:k<L.length) (hb:mayB (L.getD k [])=false) (h:∀i,i<k→mayB (L.getD i [])=true):uB.f (L.map mkS)=some ([],4,()):=by
 rw[uB.f_eq,tH2];have hlen:∀i,i<L.length→(L.getD i []).length<100000:=fun i hi=>hs _ (by rw[qH2,aI2 hi];exact tJ2 hi)
 have:=mH (fun i:Nat=>uB.l1 (L.map mkS) (L.map mkS) (L.length:Int) i) (k:=k) (i:=0) (uH2 _) fun j _ hj=>by
  have hlt:j<L.length:=by omega
  have:=hlen j hlt;show uB.l1 (L.map mkS) (L.map mkS) (L.length:Int) (j:Nat)=_;rw[uB.l1_eq];simp(disch:=omega)only[ss,tH2];rw[xK mkS L j [] _ hlt,eQ1 _ (by omega),h j hj];simp(disch:=omega)only[ss,hJ2,gJ2]
 refine this.trans ?_;have:=hlen k hk;show uB.l1 (L.map mkS) (L.map mkS) (L.length:Int) (k:Nat)=_;rw[uB.l1_eq];simp(disch:=omega)only[ss,tH2];rw[xK mkS L k [] _ hk,eQ1 _ (by omega),hb];simp(disch:=omega)only[ss]
theorem fD1 (L:List (List UInt8)) (hl:L.length<100000) (hs:∀s∈L,s.length<100000) (h:∀i,i<L.length→mayB (L.getD i [])=true):uB.f (L.map mkS)=uB.l2 (L.map mkS) (L.length:Int) 0 []:=by
 rw[uB.f_eq,tH2];have hlen:∀i,i<L.length→(L.getD i []).length<100000:=fun i hi=>hs _ (by rw[qH2,aI2 hi];exact tJ2 hi)
 have:=mH (fun i:Nat=>uB.l1 (L.map mkS) (L.map mkS) (L.length:Int) i) (k:=L.length) (i:=0) (uH2 _) fun j _ hj=>by have:=hlen j hj;show uB.l1 (L.map mkS) (L.map mkS) (L.length:Int) (j:Nat)=_;rw[uB.l1_eq];simp(disch:=omega)only[ss,tH2];rw[xK mkS L j [] _ hj,eQ1 _ (by omega),h j hj];simp(disch:=omega)only[ss,hJ2,gJ2]
 refine this.trans ?_;show uB.l1 (L.map mkS) (L.map mkS) (L.length:Int) (L.length:Nat)=_;rw[uB.l1_eq];simp(disch:=omega)only[ss,tH2]
theorem sW1 (L:List (List UInt8)) (hl:L.length<100000) (i:Nat) (hi:i<L.length) (hs:(L.getD i []).length<100000) (h32:True):
  kA.l3 (L.map mkS) (i:Int) 0 []=if(L.getD i []).all (fun c=>plB c.toNat)then kA.l1 (L.map mkS) ((i+1:Nat):Int) []else some ([],4,()):=by
 have hd:=xK mkS L i [] ByteArray.empty hi;generalize hs':L.getD i []=s at *
 have key:∀(k j:Nat),s.length-j=k→j≤s.length→(s.take j).all (fun c=>plB c.toNat)=true→kA.l3 (L.map mkS) (i:Int) (j:Int) []=if s.all (fun c=>plB c.toNat)then kA.l1 (L.map mkS) ((i+1:Nat):Int) []else some ([],4,()):=by
  intro k
  induction k with
  | zero=>
   intro j hk hj h;have e:j=s.length:=by omega
   subst e;rw[uJ2]at h;rw[kA.l3_eq,h];simp(disch:=omega)only[ss,tH2,hd,szS,hJ2,gJ2];rfl
  | succ k ih=>
   intro j hk hj h;have hlt:j<s.length:=by omega
   have hb:bt (mkS s) (j:Int)=(chr s j:Int):=rfl
   have h4:∀b:Bool,b = !plB (chr s j)→kA.l4 (L.map mkS) (i:Int) (j:Int) b []=if s.all (fun c=>plB c.toNat)then kA.l1 (L.map mkS) ((i+1:Nat):Int) []else some ([],4,()):=by
    rintro b rfl;rw[kA.l4_eq];cases hc:plB (chr s j)with
    | true=>
     simp(disch:=omega)only[ss];exact ih (j+1) (by omega) (by omega) (yJ1 s j hlt h hc)
    | false=>
     rw[aF1 s j hlt hc];rfl
   rw[kA.l3_eq];simp(disch:=omega)only[ss,tH2,hd,szS,hb];by_cases h1:chr s j<32
   ·simp(disch:=omega)only[ss];exact h4 true (by unfold plB;simp(disch:=omega)only[ss])
   ·simp(disch:=omega)only[ss]
    exact h4 _ (by
     unfold plB;by_cases h2:chr s j≤126
     ·simp(disch:=omega)only[ss]
     ·simp(disch:=omega)only[ss])
 exact key s.length 0 rfl (uH2 _) rfl
theorem bC1 (L:List (List UInt8)) (hl:L.length<100000) (i:Nat) (hi:i<L.length) (hs:(L.getD i []).length<100000):
  kA.l1 (L.map mkS) (i:Int) []=if mayB (L.getD i [])then kA.l1 (L.map mkS) ((i+1:Nat):Int) []else some ([],4,()):=by
 have hd:=xK mkS L i [] ByteArray.empty hi;have h3:=sW1 L hl i hi hs trivial;generalize hs':L.getD i []=s at *;rw[kA.l1_eq];simp(disch:=omega)only[ss,tH2,hd,szS]
 cases s with
 | nil=>
  simp(disch:=omega)only[ss,hI2];rw[kA.l2_eq];rfl
 | cons x y=>
  have hlen:(x::y).length=y.length+1:=rfl;have hb:bt (mkS (x::y)) 0=(chr (x::y) 0:Int):=rfl;have hh:=rI1 (x::y) (by simp);simp(disch:=omega)only[ss,hlen,hb];rw[kA.l2_eq,←hh];unfold mayB;by_cases hx:(x::y).head?=some 32
  ·rw[dp hx];simp
  ·rw[dn hx,cond_false,h3];simp
theorem yR1 (L:List (List UInt8)) (hl:L.length<100000) (hs:∀s∈L,s.length<100000) {k:Nat} (hk:k<L.length) (hb:mayB (L.getD k [])=false) (h:∀i,i<k→mayB (L.getD i [])=true):kA.f (L.map mkS)=some ([],4,()):=by
 have hlen:∀i,i<L.length→(L.getD i []).length<100000:=fun i hi=>hs _ (by rw[qH2,aI2 hi];exact tJ2 hi)
 rw[kA.f_eq];refine(mH (fun i:Nat=>kA.l1 (L.map mkS) i []) (k:=k) (i:=0) (uH2 _) fun j _ hj=>?_).trans ?_
 ·show kA.l1 (L.map mkS) (j:Nat) []=_;rw[bC1 L hl j (by omega) (hlen j (by omega)),h j hj];rfl
 ·show kA.l1 (L.map mkS) (k:Nat) []=_;rw[bC1 L hl k hk (hlen k hk),hb];rfl
theorem dM1 (L:List (List UInt8)) (hl:L.length<100000) (hs:∀s∈L,s.length<100000) (h:∀i,i<L.length→mayB (L.getD i [])=true):kA.f (L.map mkS)=kA.l5 (L.map mkS) 0 []:=by
 have hlen:∀i,i<L.length→(L.getD i []).length<100000:=fun i hi=>hs _ (by rw[qH2,aI2 hi];exact tJ2 hi)
 rw[kA.f_eq];refine(mH (fun i:Nat=>kA.l1 (L.map mkS) i []) (k:=L.length) (i:=0) (uH2 _) fun j _ hj=>?_).trans ?_
 ·show kA.l1 (L.map mkS) (j:Nat) []=_;rw[bC1 L hl j (by omega) (hlen j (by omega)),h j hj];rfl
 ·show kA.l1 (L.map mkS) (L.length:Nat) []=_;rw[kA.l1_eq];simp(disch:=omega)only[ss,tH2]
def pK :Nat→Nat→List UInt8→List UInt8
 | 0,_,s=>s++[13,10]
 | n+1,w,s=>if w<s.length then s.take w++13::10::32::pK n 74 (s.drop w)else s++[13,10]
def wK (L:List (List UInt8)):List UInt8:=L.flatMap fun s=>pK s.length 75 s
theorem ext0 (s:List UInt8) (w:Nat):tD ((mkS s).extract 0 w)=I (s.take w):=by rw[oP1,dN,B_mk]
theorem exte (s:List UInt8) (w:Nat):(mkS s).extract w s.length=mkS (s.drop w):=yH (by
 have:=zK (mkS s) w;rw[szS]at this;rw[this]
 rfl)
theorem oC2 (X:List ByteArray) (N:Int) (i:Nat) (hi:i<100000):∀(n:Nat) (s:List UInt8) (w:Nat) (y:List UInt8),s.length≤n→1≤w→w<100→y.length+4*s.length<1000000 →
  uB.l3 (mkS s) (w:Int) X N (i:Int) (I y)=if 4096<(y++pK n w s).length then some ([],3,())else uB.l2 X N ((i+1:Nat):Int) (I (y++pK n w s)):=by
 have hlim:uC=17179869184:=rfl;have hend:∀(s:List UInt8) (w:Nat) (y:List UInt8),s.length≤w→y.length+4*s.length<1000000 →
   uB.l3 (mkS s) (w:Int) X N (i:Int) (I y)=if 4096<(y++(s++[13,10])).length then some ([],3,())else uB.l2 X N ((i+1:Nat):Int) (I (y++(s++[13,10]))):=by
  intro s w y h1 h2;have e:I y++I s++([13,10]:List Int)=I (y++(s++[13,10])):=by simp[I]
  have e2:(y++(s++[13,10])).length=y.length+s.length+2:=by simp;omega
  have hb:tD (mkS s)=I s:=rfl;have e6:(I y++I s).length=y.length+s.length:=by rw[←bW1,uG,oH2]
  rw[uB.l3_eq,hb,e];simp(disch:=omega)only[ss,szS,uG,e6,e2,zH2,hI2];by_cases h:4096<(y++(s++[13,10])).length
  ·rw[e2]at h;rw[if_pos (by omega)];simp(disch:=omega)only[ss]
  ·rw[e2]at h;rw[if_neg (by omega)];simp(disch:=omega)only[ss,hJ2,gJ2]
 intro n
 induction n with
 | zero=>
  intro s w y h1 h2 h3 h4;exact hend s w y (by omega) h4
 | succ n ih=>
  intro s w y h1 h2 h3 h4;unfold pK;by_cases h:w<s.length
  ·rw[if_pos h];have e:I y++I (s.take w)++([13,10,32]:List Int)=I (y++(s.take w++[13,10,32])):=by simp[I]
   have e3:(s.take w).length=w:=by simp;omega
   have e4:(s.drop w).length=s.length-w:=by simp
   have e2:(y++(s.take w++[13,10,32])).length=y.length+w+3:=by simp;omega
   have e6:(I y++I (s.take w)).length=y.length+w:=by rw[←bW1,uG,oH2,e3]
   rw[uB.l3_eq];simp(disch:=omega)only[ss,szS,ext0,e,uG,e6,e2,e3,zH2,hI2];rw[exte];have:=ih (s.drop w) 74 (y++(s.take w++[13,10,32])) (by omega) (by omega) (by omega) (by omega);rw[show((74:Nat):Int)=74 from rfl]at this;rw[this];have e5:y++(s.take w++[13,10,32])++pK n 74 (s.drop w)=y++(s.take w++13::10::32::pK n 74 (s.drop w)):=by simp
   rw[e5]
  ·rw[if_neg h];exact hend s w y (by omega) h4
theorem fO1 :∀(n w:Nat) (s:List UInt8),s.length≤n→1≤w→(pK n w s).length≤4*s.length+2:=by
 intro n
 induction n with
 | zero=>
  intro w s h _;simp[pK];omega
 | succ n ih=>
  intro w s h hw;unfold pK;split
  ·rename_i hlt;have e4:(s.drop w).length=s.length-w:=by simp
   have:=ih 74 (s.drop w) (by omega) (by omega);rw[e4]at this;simp only[oH2,zH2,cI2];omega
  ·simp;omega
theorem pX1 :∀(n w:Nat) (s:List UInt8),s.length+2≤(pK n w s).length:=by
 intro n
 induction n with
 | zero=>
  intro w s;simp[pK]
 | succ n ih=>
  intro w s;unfold pK;split
  ·have e4:(s.drop w).length=s.length-w:=by simp
   have:=ih 74 (s.drop w);rw[e4]at this;simp only[oH2,zH2,cI2];omega
  ·simp
theorem jU1 (X:List ByteArray) (i:Nat) (hi:i<100000):∀(n:Nat) (s:List UInt8) (w:Nat) (y:List UInt8),s.length≤n→1≤w→w<100→y.length+4*s.length<1000000 →
  kA.l6 X (i:Int) (mkS s) (w:Int) (I y)=if 4096<(y++pK n w s).length then some ([],3,())else kA.l5 X ((i+1:Nat):Int) (I (y++pK n w s)):=by
 have hlim:uC=17179869184:=rfl;have hend:∀(s:List UInt8) (w:Nat) (y:List UInt8),s.length≤w→y.length+4*s.length<1000000 →
   kA.l6 X (i:Int) (mkS s) (w:Int) (I y)=if 4096<(y++(s++[13,10])).length then some ([],3,())else kA.l5 X ((i+1:Nat):Int) (I (y++(s++[13,10]))):=by
  intro s w y h1 h2;have e:I y++I s++([13,10]:List Int)=I (y++(s++[13,10])):=by simp[I]
  have e2:(y++(s++[13,10])).length=y.length+s.length+2:=by simp;omega
  have hb:tD (mkS s)=I s:=rfl;have e6:(I y++I s).length=y.length+s.length:=by rw[←bW1,uG,oH2]
  rw[kA.l6_eq,hb,e];simp(disch:=omega)only[ss,szS,uG,e6,e2,zH2,hI2];by_cases h:4096<(y++(s++[13,10])).length
  ·rw[e2]at h;rw[if_pos (by omega)];simp(disch:=omega)only[ss]
  ·rw[e2]at h;rw[if_neg (by omega)];simp(disch:=omega)only[ss,hJ2,gJ2]
 intro n
 induction n with
 | zero=>
  intro s w y h1 h2 h3 h4;exact hend s w y (by omega) h4
 | succ n ih=>
  intro s w y h1 h2 h3 h4;unfold pK;by_cases h:w<s.length
  ·rw[if_pos h];have e:I y++I (s.take w)++([13,10,32]:List Int)=I (y++(s.take w++[13,10,32])):=by simp[I]
   have e3:(s.take w).length=w:=by simp;omega
   have e4:(s.drop w).length=s.length-w:=by simp
   have e2:(y++(s.take w++[13,10,32])).length=y.length+w+3:=by simp;omega
   have e5:y++(s.take w++[13,10,32])++pK n 74 (s.drop w)=y++(s.take w++13::10::32::pK n 74 (s.drop w)):=by simp
   have e6:(I y++I (s.take w)).length=y.length+w:=by rw[←bW1,uG,oH2,e3]
   rw[kA.l6_eq];simp(disch:=omega)only[ss,szS,ext0,e,uG,e6,e2,e3,zH2,hI2];rw[exte];by_cases hov:4096<y.length+w+3
   ·simp(disch:=omega)only[ss];have:=pX1 n 74 (s.drop w);rw[if_pos (by rw[←e5,oH2,e2];omega)]
   ·simp(disch:=omega)only[ss];have:=ih (s.drop w) 74 (y++(s.take w++[13,10,32])) (by omega) (by omega) (by omega) (by omega);rw[show((74:Nat):Int)=74 from rfl]at this;rw[this,e5]
  ·rw[if_neg h];exact hend s w y (by omega) h4
theorem nO1 (L:List (List UInt8)) (hl:L.length<10000):∀(k i:Nat) (y:List UInt8),L.length-i=k→i≤L.length→y.length≤4096→totF (L.drop i)<10000 →
  uB.l2 (L.map mkS) (L.length:Int) (i:Int) (I y)=if 4096<(y++wK (L.drop i)).length then some ([],3,())else some (I (y++wK (L.drop i)),0,()):=by
 intro k
 induction k with
 | zero=>
  intro i y hk hi hy ht;have e:i=L.length:=by omega
  subst e;rw[uB.l2_eq,fJ2];have:y++wK []=y:=by simp[wK]
  rw[this,if_neg (by omega)];simp(disch:=omega)only[ss]
 | succ k ih=>
  intro i y hk hi hy ht;have hlt:i<L.length:=by omega
  have hd:=oQ L i [] hlt;rw[hd,nJ]at ht;have hw:=fO1 (L.getD i []).length 75 (L.getD i []) (yH2 _) (by omega);rw[uB.l2_eq];simp(disch:=omega)only[ss,tH2];rw[xK mkS L i [] _ hlt];have:=oC2 (L.map mkS) (L.length:Int) i (by omega) (L.getD i []).length (L.getD i []) 75 y (yH2 _) (by omega) (by omega) (by omega);rw[show((75:Nat):Int)=75 from rfl]at this;rw[this,hd];have e:wK (L.getD i []::L.drop (i+1))=pK (L.getD i []).length 75 (L.getD i [])++wK (L.drop (i+1)):=rfl;rw[e,←dI2];by_cases h:4096<(y++pK (L.getD i []).length 75 (L.getD i [])).length
  ·rw[if_pos h,if_pos (by rw[oH2];omega)]
  ·rw[if_neg h];exact ih (i+1) _ (by omega) (by omega) (by omega) (by omega)
theorem pW1 (L:List (List UInt8)) (hl:L.length<10000):∀(k i:Nat) (y:List UInt8),L.length-i=k→i≤L.length→y.length≤4096→totF (L.drop i)<10000 →
  kA.l5 (L.map mkS) (i:Int) (I y)=if 4096<(y++wK (L.drop i)).length then some ([],3,())else some (I (y++wK (L.drop i)),0,()):=by
 intro k
 induction k with
 | zero=>
  intro i y hk hi hy ht;have e:i=L.length:=by omega
  subst e;rw[kA.l5_eq,fJ2];have:y++wK []=y:=by simp[wK]
  rw[this,if_neg (by omega)];simp(disch:=omega)only[ss,tH2]
 | succ k ih=>
  intro i y hk hi hy ht;have hlt:i<L.length:=by omega
  have hd:=oQ L i [] hlt;rw[hd,nJ]at ht;rw[kA.l5_eq];simp(disch:=omega)only[ss,tH2];rw[xK mkS L i [] _ hlt];have:=jU1 (L.map mkS) i (by omega) (L.getD i []).length (L.getD i []) 75 y (yH2 _) (by omega) (by omega) (by omega);rw[show((75:Nat):Int)=75 from rfl]at this;rw[this,hd];have e:wK (L.getD i []::L.drop (i+1))=pK (L.getD i []).length 75 (L.getD i [])++wK (L.drop (i+1)):=rfl;rw[e,←dI2];by_cases h:4096<(y++pK (L.getD i []).length 75 (L.getD i [])).length
  ·rw[if_pos h,if_pos (by rw[oH2];omega)]
  ·rw[if_neg h];exact ih (i+1) _ (by omega) (by omega) (by omega) (by omega)
def nM1 (L:List (List UInt8)):Option (List Int×Int×Unit):=
 if(L.all mayB)=true then(if 4096<(wK L).length then some ([],3,())else some (I (wK L),0,()))else some ([],4,())
theorem kT {L:List (List UInt8)} {s:List UInt8} (h:s∈L):s.length≤totF L:=by
 induction L with
 | nil=>cases h
 | cons a l ih=>
  rw[nJ]
  cases h with
  | head=>omega
  | tail _ h=>have:=ih h;omega
theorem vN1 (L:List (List UInt8)) (h:∀i,i<L.length→mayB (L.getD i [])=true):L.all mayB=true:=by rw[lJ2];intro s hs;obtain⟨i,hi,rfl⟩:=zK2 hs;have:=h i hi;rw[qH2,aI2 hi]at this;exact this
theorem tV (L:List (List UInt8)) {k:Nat} (hk:k<L.length) (hb:mayB (L.getD k [])=false):¬L.all mayB=true:=by intro h;rw[lJ2]at h;have:=h _ (show L.getD k []∈L by rw[qH2,aI2 hk];exact tJ2 hk);rw[hb]at this;cases this
theorem uX1 (L:List (List UInt8)) (hl:L.length≤300) (ht:totF L≤9000):uB.f (L.map mkS)=nM1 L:=by
 have hs:∀s∈L,s.length<100000:=fun s h=>by have:=kT h;omega
 unfold nM1;rcases qQ (fun i=> !mayB (L.getD i [])) L.length with h | ⟨k,h1,h2,h3⟩
 ·have h':∀i,i<L.length→mayB (L.getD i [])=true:=fun i hi=>by have:=h i hi;simpa using this
  rw[if_pos (vN1 L h')];have e1:=nO1 L (by omega) L.length 0 [] rfl (uH2 _) (by simp) (by rw[mI2];omega);rw[mI2,aJ2]at e1;exact(fD1 L (by omega) hs h').trans e1
 ·have h2':mayB (L.getD k [])=false:=by simpa using h2
  have h3':∀i,i<k→mayB (L.getD i [])=true:=fun i hi=>by have:=h3 i hi;simpa using this
  rw[if_neg (tV L h1 h2')];exact tJ1 L (by omega) hs h1 h2' h3'
theorem sP1 (L:List (List UInt8)) (hl:L.length≤300) (ht:totF L≤9000):uB.f (L.map mkS)=nM1 L∧kA.f (L.map mkS)=nM1 L:=by
 have hs:∀s∈L,s.length<100000:=fun s h=>by have:=kT h;omega
 unfold nM1;rcases qQ (fun i=> !mayB (L.getD i [])) L.length with h | ⟨k,h1,h2,h3⟩
 ·have h':∀i,i<L.length→mayB (L.getD i [])=true:=fun i hi=>by have:=h i hi;simpa using this
  rw[if_pos (vN1 L h')];have e1:=nO1 L (by omega) L.length 0 [] rfl (uH2 _) (by simp) (by rw[mI2];omega);have e2:=pW1 L (by omega) L.length 0 [] rfl (uH2 _) (by simp) (by rw[mI2];omega);rw[mI2,aJ2]at e1 e2;exact⟨(fD1 L (by omega) hs h').trans e1,(dM1 L (by omega) hs h').trans e2⟩
 ·have h2':mayB (L.getD k [])=false:=by simpa using h2
  have h3':∀i,i<k→mayB (L.getD i [])=true:=fun i hi=>by have:=h3 i hi;simpa using this
  rw[if_neg (tV L h1 h2')];exact⟨tJ1 L (by omega) hs h1 h2' h3',yR1 L (by omega) hs h1 h2' h3'⟩
theorem yL1 (acc:List (List UInt8)) (s:List UInt8) (r:List (List UInt8)):fN acc (s::r)=fN (glue acc (eG s)) r:=rfl
def run :Nat→List UInt8→Bool
 | _,[]=>true
 | c,b::l=>if b=10 then run 0 l else decide (c+1≤76)&&run (c+1) l
abbrev pX (l:List Int):Prop:=l.Pairwise (· < ·)
theorem pZ :∀{a b:List Int},pX a→pX b→(∀x,x∈a↔x∈b)→a=b
 | [],[],_,_,_=>rfl
 | [],y::b,_,_,h=>by have:=(h y).2 wH2;cases this
 | x::a,[],_,_,h=>by have:=(h x).1 wH2;cases this
 | x::a,y::b,ha,hb,h=>by
  have ha:=dJ2.1 ha;have hb:=dJ2.1 hb;have e:x=y:=by
   have h1:=(h x).1 wH2;have h2:=(h y).2 wH2;rcases vH2.1 h1 with h1 | h1
   ·exact h1
   ·rcases vH2.1 h2 with h2 | h2
    ·exact h2.symm
    ·have:=hb.1 x h1;have:=ha.1 y h2;omega
  subst e;rw[pZ ha.2 hb.2 fun z=>?_];have h3:=h z;simp only[vH2]at h3;constructor
  ·intro hz;rcases h3.1 (.inr hz)with h4 | h4
   ·have:=ha.1 z hz;omega
   ·exact h4
  ·intro hz;rcases h3.2 (.inr hz)with h4 | h4
   ·have:=hb.1 z hz;omega
   ·exact h4
theorem lT1 (l:List Int) (i:Nat) (hi:i<l.length) (hl:l.length≤1000000) (y:List Int) (hy:y.length≤1000000):∀(k q:Nat),y.length-q=k→q≤y.length→(∀j,j<q→y.getD j 0<l.getD i 0) →
  ∃q':Nat,q'≤y.length∧oA.l2 l i q y=oA.l4 l i q' y∧(∀j,j<q'→y.getD j 0<l.getD i 0)∧(q'<y.length→l.getD i 0≤y.getD q' 0):=by
 intro k
 induction k with
 | zero=>
  intro q hk hq h;refine⟨q,hq,?_,h,fun h=>by omega⟩;rw[oA.l2_eq];simp(disch:=omega)only[ss,oA.l3_eq]
 | succ k ih=>
  intro q hk hq h;rw[oA.l2_eq];by_cases hc:y.getD q 0<l.getD i 0
  ·simp(disch:=omega)only[ss,oA.l3_eq];refine ih (q+1) (by omega) (by omega) fun j hj=>?_
   by_cases e:j=q
   ·subst e;exact hc
   ·exact h j (by omega)
  ·simp(disch:=omega)only[ss,oA.l3_eq];exact⟨q,hq,rfl,h,fun _=>by omega⟩
theorem cQ1 (l:List Int) (hl:l.length≤1000000):∀(k i:Nat) (y:List Int),l.length-i=k→i≤l.length→y.length≤i→pX y →
  ∃r,oA.l1 l i y=some (r,())∧pX r ∧ ∀x,x∈r↔x∈y∨x∈l.drop i:=by
 have hlim:uC=17179869184:=rfl;intro k
 induction k with
 | zero=>
  intro i y hk hi hy hr;have e:i=l.length:=by omega
  subst e;rw[oA.l1_eq];simp(disch:=omega)only[ss];exact⟨y,rfl,hr,fun x=>by simp⟩
 | succ k ih=>
  intro i y hk hi hy hr;have hlt:i<l.length:=by omega
  obtain⟨q,h1,h2,h3,h4⟩:=lT1 l i hlt hl y (by omega) _ 0 rfl (uH2 _) fun j hj=>by omega
  rw[oA.l1_eq];rw[eI2]at h2;simp(disch:=omega)only[ss,h2];rw[oC 0 hlt,oA.l4_eq];have ins:(q<y.length→l.getD i 0<y.getD q 0) → ∃r,oA.l6 l i q y=some (r,())∧pX r ∧ ∀x,x∈r↔x∈y∨x∈l.getD i 0::l.drop (i+1):=by
   intro h5;have hp:=nU1 y (l.getD i 0) q;have hs:pX (y.take q++([l.getD i 0]++y.drop q)):=by
    refine xM1 hr (fun a ha=>?_) fun a ha=>?_
    ·obtain⟨j,hj,e⟩:=zK2 ha;rw[cI2]at hj;rw[List.getElem_take]at e;have:=h3 j (by omega);rw[uH 0 (by omega),e]at this;exact this
    ·obtain⟨j,hj,e⟩:=zK2 ha;rw[qI2]at hj;rw[List.getElem_drop]at e;have a1:=h5 (by omega);rw[uH 0 (show q<y.length by omega)]at a1;by_cases hj0:j=0
     ·subst hj0;simp only[tK2]at e;rw[←e];exact a1
     ·have:=List.pairwise_iff_getElem.1 hr q (q+j) (by omega) (by omega) (by omega);rw[e]at this;omega
   obtain⟨r,b1,b2,b3⟩:=ih (i+1) _ (by omega) (by omega) (by rw[hp.length_eq];simp;omega) hs;refine⟨r,?_,b2,fun x=>?_⟩
   ·rw[oA.l6_eq];simp(disch:=omega)only[ss,rH2,oH2,cI2,qI2,hlim];exact b1
   ·rw[b3,hp.mem_iff,vH2,vH2];constructor
    ·rintro((h | h) | h)
     ·exact .inr (.inl h)
     ·exact .inl h
     ·exact .inr (.inr h)
    ·rintro(h | h | h)
     ·exact .inl (.inr h)
     ·exact .inl (.inl h)
     ·exact .inr h
  by_cases hq:q<y.length
  ·by_cases he:y.getD q 0=l.getD i 0
   ·simp(disch:=omega)only[ss,oA.l5_eq];obtain⟨r,b1,b2,b3⟩:=ih (i+1) y (by omega) (by omega) (by omega) hr;refine⟨r,b1,b2,fun x=>?_⟩;have hm:l.getD i 0∈y:=by rw[←he];exact iD 0 hq
    rw[b3,vH2];constructor
    ·rintro(h | h)
     ·exact .inl h
     ·exact .inr (.inr h)
    ·rintro(h | h | h)
     ·exact .inl h
     ·exact .inl (h ▸ hm)
     ·exact .inr h
   ·simp(disch:=omega)only[ss,oA.l5_eq];exact ins fun h=>by have:=h4 h;omega
  ·simp(disch:=omega)only[ss,oA.l5_eq];exact ins fun h=>by omega
theorem fW (l:List Int) (hl:l.length≤1000000):∃r,oA.f l=some (r,())∧pX r ∧ ∀x,x∈r↔x∈l:=by obtain⟨r,h1,h2,h3⟩:=cQ1 l hl _ 0 [] rfl (uH2 _) (yH2 _) List.Pairwise.nil;refine⟨r,?_,h2,fun x=>by rw[h3];simp⟩;rw[oA.f_eq];exact h1
def dd :Int→List Int→List Int
 | _,[]=>[]
 | p,a::l=>if a=p then dd a l else a::dd a l
theorem yP1 :∀(l:List Int) (p x:Int),x∈dd p l∨x=p↔x∈l∨x=p
 | [],p,x=>by simp[dd]
 | a::l,p,x=>by
  unfold dd;have ih:=yP1 l a x;by_cases h:a=p
  ·subst h;rw[if_pos rfl,ih,vH2];constructor
   ·rintro(h | h)
    ·exact .inl (.inr h)
    ·exact .inr h
   ·rintro((h | h) | h)
    ·exact .inr h
    ·exact .inl h
    ·exact .inr h
  ·rw[if_neg h,vH2,vH2];constructor
   ·rintro((h1 | h1) | h1)
    ·exact .inl (.inl h1)
    ·rcases ih.1 (.inl h1)with h2 | h2
     ·exact .inl (.inr h2)
     ·exact .inl (.inl h2)
    ·exact .inr h1
   ·rintro((h1 | h1) | h1)
    ·exact .inl (.inl h1)
    ·rcases ih.2 (.inl h1)with h2 | h2
     ·exact .inl (.inr h2)
     ·exact .inl (.inl h2)
    ·exact .inr h1
theorem hB1 :∀(l:List Int) (p:Int),(p::l).Pairwise (· ≤ ·)→pX (p::dd p l)
 | [],p,_=>List.pairwise_singleton _ _
 | a::l,p,h=>by
  unfold dd;rw[dJ2]at h;have ih:=hB1 l a h.2;by_cases he:a=p
  ·subst he;rw[if_pos rfl];exact ih
  ·rw[if_neg he];have hlt:p<a:=by have:=h.1 a wH2;omega
   refine dJ2.2 ⟨fun b hb=>?_,ih⟩;rcases vH2.1 hb with rfl | hb
   ·exact hlt
   ·have:=(dJ2.1 ih).1 b hb;omega
def dds :List Int→List Int
 | []=>[]
 | a::l=>a::dd a l
theorem fB2 (N:Nat) (hN:N≤1000000) (b:Nat):∀(k i q:Nat) (y:List Int),y.length=N→N-(b+q)=k→1≤q→i<b+q→b+q≤N →
  iA.l3 i b q y=some (y.take i++dd (y.getD (b+q-1) 0) (y.drop (b+q)),()):=by
 intro k
 induction k with
 | zero=>
  intro i q y hy hk hq hi hb;have e:b+q=y.length:=by omega
  have e2:(y.take i++List.replicate (y.length-i) 0).take i=y.take i:=by rw[qK2 (by rw[cI2];omega),List.take_take,Nat.min_self]
  rw[iA.l3_eq,e,fJ2];simp(disch:=omega)only[ss,oH2,cI2,List.length_replicate,e2,iA.l4_eq,dd,bI2]
 | succ k ih=>
  intro i q y hy hk hq hi hb;have hlt:b+q<y.length:=by omega
  have w1:w6 ((q:Int)-1)=((q-1:Nat):Int):=uR (by omega) (by omega);have w2:((b:Int)+((q-1:Nat):Int)).toNat=b+q-1:=by omega
  have e1:((q:Int)<((y.length-b:Nat):Int)):=by omega
  rw[iA.l3_eq,oC 0 hlt];simp(disch:=omega)only[ss,w1,w2,e1,qI2,dd];by_cases hc:y.getD (b+q) 0=y.getD (b+q-1) 0
  ·simp(disch:=omega)only[ss,if_pos hc];have:=ih i (q+1) y hy (by omega) (by omega) (by omega) (by omega);rw[show b+(q+1)-1=b+q by omega,show b+(q+1)=b+q+1 by omega]at this;exact this
  ·simp(disch:=omega)only[ss,if_neg hc];have:=ih (i+1) (q+1) (y.set i (y.getD (b+q) 0)) (by simp[hy]) (by omega) (by omega) (by omega) (by omega);refine this.trans ?_;have g1:(y.set i (y.getD (b+q) 0)).getD (b+(q+1)-1) 0=y.getD (b+q) 0:=by
    rw[show b+(q+1)-1=b+q by omega,qH2,qH2,List.getElem?_set];by_cases h:i=b+q
    ·omega
    ·rw[if_neg h]
   have g2:(y.set i (y.getD (b+q) 0)).getD i 0=y.getD (b+q) 0:=by rw[uH 0 (show i<(y.set i (y.getD (b+q) 0)).length by simp;omega)];simp
   rw[g1,tE 0 (show i<(y.set i (y.getD (b+q) 0)).length by simp;omega),List.drop_set_of_lt (by omega),List.take_set_of_le (yH2 i),g2,show b+(q+1)=b+q+1 by omega];simp
theorem qA2 (y:List Int) (hN:y.length≤1000000):∀(k q:Nat),y.length-q=k→1≤q→q≤y.length →
  iA.l2 q y=some (y.take q++dd (y.getD (q-1) 0) (y.drop q),()):=by
 intro k
 induction k with
 | zero=>
  intro q hk hq hq2;have e:q=y.length:=by omega
  subst e;rw[iA.l2_eq];simp(disch:=omega)only[ss,iA.l5_eq,fJ2,uJ2,dd,bI2]
 | succ k ih=>
  intro q hk hq hq2;have hlt:q<y.length:=by omega
  have w1:w6 ((q:Int)-1)=((q-1:Nat):Int):=uR (by omega) (by omega);rw[iA.l2_eq,oC 0 hlt];simp(disch:=omega)only[ss,w1,dd];by_cases hc:y.getD q 0=y.getD (q-1) 0
  ·simp(disch:=omega)only[ss,if_pos hc];have:=fB2 y.length hN q _ q 1 y rfl rfl (yH2 _) (by omega) (by omega);rw[show q+1-1=q by omega]at this;exact this
  ·simp(disch:=omega)only[ss,if_neg hc];have:=ih (q+1) (by omega) (by omega) (by omega);rw[show q+1-1=q by omega,tE 0 hlt]at this;refine Eq.trans this ?_;simp
theorem jS (y:List Int) (hN:y.length≤1000000):iA.f y=some (dds y,()):=by
 rw[iA.f_eq]
 cases y with
 | nil=>simp(disch:=omega)only[ss,hI2,eI2,iA.l1_eq];rfl
 | cons a l=>
  by_cases h:l=[]
  ·subst h;simp(disch:=omega)only[ss,zH2,hI2,iA.l1_eq];rfl
  ·have h1:0<l.length:=hK2.2 h;have:=qA2 (a::l) hN _ 1 rfl (yH2 _) (by simp);simp(disch:=omega)only[ss,zH2];refine Eq.trans this ?_;rfl
abbrev Dy :=Int×Int×Unit
theorem qU1 (a b:Dy):(decide (a.1=b.1)&&decide (a.2.1=b.2.1))=decide (a=b):=by obtain⟨a1,a2,⟨⟩⟩:=a;obtain⟨b1,b2,⟨⟩⟩:=b;rw[Bool.eq_iff_iff];simp
def dyLt (a b:Dy):Prop:=a.1<b.1∨a.1=b.1∧a.2.1<b.2.1
def ddT :Dy→List Dy→List Dy
 | _,[]=>[]
 | p,a::l=>if a=p then ddT a l else a::ddT a l
def ddsT :List Dy→List Dy
 | []=>[]
 | a::l=>a::ddT a l
theorem bV1 (N:Nat) (hN:N≤1000000) (b:Nat):∀(k i q:Nat) (y:List Dy),y.length=N→N-(b+q)=k→1≤q→i<b+q→b+q≤N →
  dA.l3 i b q y=some (y.take i++ddT (y.getD (b+q-1) ((0,0,()):Int×Int×Unit)) (y.drop (b+q)),()):=by
 intro k
 induction k with
 | zero=>
  intro i q y hy hk hq hi hb;have e:b+q=y.length:=by omega
  have e2:(y.take i++List.replicate (y.length-i) ((0,0,()):Int×Int×Unit)).take i=y.take i:=by rw[qK2 (by rw[cI2];omega),List.take_take,Nat.min_self]
  rw[dA.l3_eq,e,fJ2];simp(disch:=omega)only[ss,oH2,cI2,List.length_replicate,e2,dA.l4_eq,ddT,bI2]
 | succ k ih=>
  intro i q y hy hk hq hi hb;have hlt:b+q<y.length:=by omega
  have w1:w6 ((q:Int)-1)=((q-1:Nat):Int):=uR (by omega) (by omega);have w2:((b:Int)+((q-1:Nat):Int)).toNat=b+q-1:=by omega
  have e1:((q:Int)<((y.length-b:Nat):Int)):=by omega
  rw[dA.l3_eq,oC ((0,0,()):Int×Int×Unit) hlt];simp(disch:=omega)only[ss,w1,w2,e1,qI2,ddT];by_cases hc:y.getD (b+q) ((0,0,()):Int×Int×Unit)=y.getD (b+q-1) ((0,0,()):Int×Int×Unit)
  ·have hc1:=decide_eq_true hc;simp(disch:=omega)only[ss,qU1,hc1,if_pos hc];have:=ih i (q+1) y hy (by omega) (by omega) (by omega) (by omega);rw[show b+(q+1)-1=b+q by omega,show b+(q+1)=b+q+1 by omega]at this;exact this
  ·have hc1:=decide_eq_false hc;simp(disch:=omega)only[ss,qU1,hc1,if_neg hc];have:=ih (i+1) (q+1) (y.set i (y.getD (b+q) ((0,0,()):Int×Int×Unit))) (by simp[hy]) (by omega) (by omega) (by omega) (by omega);refine this.trans ?_;have g1:(y.set i (y.getD (b+q) ((0,0,()):Int×Int×Unit))).getD (b+(q+1)-1) ((0,0,()):Int×Int×Unit)=y.getD (b+q) ((0,0,()):Int×Int×Unit):=by
    rw[show b+(q+1)-1=b+q by omega,qH2,qH2,List.getElem?_set];by_cases h:i=b+q
    ·omega
    ·rw[if_neg h]
   have g2:(y.set i (y.getD (b+q) ((0,0,()):Int×Int×Unit))).getD i ((0,0,()):Int×Int×Unit)=y.getD (b+q) ((0,0,()):Int×Int×Unit):=by rw[uH ((0,0,()):Int×Int×Unit) (show i<(y.set i (y.getD (b+q) ((0,0,()):Int×Int×Unit))).length by simp;omega)];simp
   rw[g1,tE ((0,0,()):Int×Int×Unit) (show i<(y.set i (y.getD (b+q) ((0,0,()):Int×Int×Unit))).length by simp;omega),List.drop_set_of_lt (by omega),List.take_set_of_le (yH2 i),g2,show b+(q+1)=b+q+1 by omega];simp
theorem gV1 (y:List Dy) (hN:y.length≤1000000):∀(k q:Nat),y.length-q=k→1≤q→q≤y.length →
  dA.l2 q y=some (y.take q++ddT (y.getD (q-1) ((0,0,()):Int×Int×Unit)) (y.drop q),()):=by
 intro k
 induction k with
 | zero=>
  intro q hk hq hq2;have e:q=y.length:=by omega
  subst e;rw[dA.l2_eq];simp(disch:=omega)only[ss,dA.l5_eq,fJ2,uJ2,ddT,bI2]
 | succ k ih=>
  intro q hk hq hq2;have hlt:q<y.length:=by omega
  have w1:w6 ((q:Int)-1)=((q-1:Nat):Int):=uR (by omega) (by omega);rw[dA.l2_eq,oC ((0,0,()):Int×Int×Unit) hlt];simp(disch:=omega)only[ss,w1,ddT];by_cases hc:y.getD q ((0,0,()):Int×Int×Unit)=y.getD (q-1) ((0,0,()):Int×Int×Unit)
  ·have hc1:=decide_eq_true hc;simp(disch:=omega)only[ss,qU1,hc1,if_pos hc];have:=bV1 y.length hN q _ q 1 y rfl rfl (yH2 _) (by omega) (by omega);rw[show q+1-1=q by omega]at this;exact this
  ·have hc1:=decide_eq_false hc;simp(disch:=omega)only[ss,qU1,hc1,if_neg hc];have:=ih (q+1) (by omega) (by omega) (by omega);rw[show q+1-1=q by omega,tE ((0,0,()):Int×Int×Unit) hlt]at this;refine Eq.trans this ?_;simp
theorem oA1 (y:List Dy) (hN:y.length≤1000000):dA.f y=some (ddsT y,()):=by
 rw[dA.f_eq]
 cases y with
 | nil=>simp(disch:=omega)only[ss,hI2,eI2,dA.l1_eq];rfl
 | cons a l=>
  by_cases h:l=[]
  ·subst h;simp(disch:=omega)only[ss,zH2,hI2,dA.l1_eq];rfl
  ·have h1:0<l.length:=hK2.2 h;have:=gV1 (a::l) hN _ 1 rfl (yH2 _) (by simp);simp(disch:=omega)only[ss,zH2];refine Eq.trans this ?_;rfl
theorem sQ1 (c:UInt8) (s:List UInt8) (hs:s.length≤1000000):∀(k i bF:Nat) (y:List ByteArray),s.length+1-i=k→bF≤i→i≤s.length→y.length≤i→c∉(s.drop bF).take (i-bF) →
  rB.l1 (mkS s) (c.toNat:Int) bF i y=some (y++(segs c (s.drop bF)).map mkS,()):=by
 have hlim:uC=17179869184:=rfl;intro k
 induction k with
 | zero=>intro i bF y hk hf hi;omega
 | succ k ih=>
  intro i bF y hk hf hi hy hn;have hex:(mkS s).extract bF i=mkS ((s.drop bF).take (i-bF)):=yH (by rw[iX1,B_mk,B_mk]);rw[rB.l1_eq];by_cases hlt:i<s.length
  ·have hbt:bt (mkS s) (i:Int)=((s.getD i 0).toNat:Int):=wH (mkS s) i;have hsp:s.drop bF=(s.drop bF).take (i-bF)++s.getD i 0::s.drop (i+1):=by
    conv=>lhs;rw[←eJ2 (i-bF) (s.drop bF)]
    rw[nK2,show bF+(i-bF)=i by omega,oC 0 hlt]
   by_cases hc:((s.getD i 0).toNat:Int)=(c.toNat:Int)
   ·have hc':=(dY1 _ _).1 hc;simp(disch:=omega)only[ss,szS,hbt,rB.l2_eq,hex,rH2,hlim];refine(ih (i+1) (i+1) (y++[mkS ((s.drop bF).take (i-bF))]) (by omega) (by omega) (by omega) (by simp;omega) (by simp)).trans ?_;have hseg:segs c (s.drop bF)=(s.drop bF).take (i-bF)::segs c (s.drop (i+1)):=by
     conv=>lhs;rw[hsp,hc']
     exact iK hn
    rw[hseg];simp
   ·have hc':¬s.getD i 0=c:=fun q=>hc (by rw[q])
    simp(disch:=omega)only[ss,szS,hbt,rB.l2_eq];refine ih (i+1) bF y (by omega) (by omega) (by omega) (by omega) ?_;rw[show i+1-bF=(i-bF)+1 by omega,tE 0 (show i-bF<(s.drop bF).length by rw[qI2];omega)];have:(s.drop bF).getD (i-bF) 0=s.getD i 0:=by
     rw[uH 0 (show i-bF<(s.drop bF).length by rw[qI2];omega),uH 0 hlt,List.getElem_drop]
     congr 1
     omega
    rw[this];intro q;rcases kI2.1 q with q | q
    ·exact hn q
    ·rw[xI2]at q;exact hc' q.symm
  ·have e:i=s.length:=by omega
   subst e;have ht:(s.drop bF).take (s.length-bF)=s.drop bF:=yJ2 (by rw[qI2];omega);rw[ht]at hn hex;simp(disch:=omega)only[ss,szS,rB.l2_eq,hex,rH2,hlim];rw[rB.l1_eq];simp(disch:=omega)only[ss,szS];rw[mK hn];rfl
theorem cK (c:UInt8) (s:List UInt8) (hs:s.length≤1000000):rB.f (mkS s) (c.toNat:Int)=some ((segs c s).map mkS,()):=by rw[rB.f_eq];have:=sQ1 c s hs _ 0 0 [] rfl (yH2 _) (uH2 _) (yH2 _) (by simp);rw[eI2]at this;simpa using this
theorem gM (c:UInt8) (l:List UInt8):(segs c l).length≤l.length+1 ∧ ∀s∈segs c l,s.length≤l.length:=by
 suffices h:∀(k:Nat) (l:List UInt8),l.length=k→(segs c l).length≤l.length+1 ∧ ∀s∈segs c l,s.length≤l.length from h _ l rfl
 intro k
 induction k using Nat.strongRecOn with
 | ind k ih=>
  intro l hl;rcases iI (c:=c) (l:=l)with h | ⟨a,b,h,h2⟩
  ·rw[mK h];refine⟨by simp,fun s hs=>?_⟩;rw[xI2]at hs;rw[hs];exact yH2 _
  ·subst h;rw[iK h2];simp only[oH2,zH2]at hl ⊢;obtain⟨h3,h4⟩:=ih b.length (by omega) b rfl;refine⟨by omega,fun s hs=>?_⟩;rcases vH2.1 hs with rfl | hs
   ·omega
   ·have:=h4 s hs;omega
theorem lU (c:UInt8) (l:List UInt8):segs c l≠[]:=by
 rcases iI (c:=c) (l:=l)with h | ⟨a,b,h,h2⟩
 ·rw[mK h];simp
 ·subst h;rw[iK h2];simp
def posF :Int→List (List UInt8)→List UInt8→Int
 | _,[],_=> -1
 | i,w::l,v=>if w=v then i else posF (i+1) l v
theorem sO :∀(l:List (List UInt8)) (v:List UInt8) (i:Int),0≤i→(0≤posF i l v↔v∈l)∧posF i l v≤i+l.length ∧ -1≤posF i l v∧(posF i l v<0→posF i l v = -1)
 | [],v,i,h=>by simp[posF];omega
 | w::l,v,i,h=>by
  unfold posF;by_cases hw:w=v
  ·rw[if_pos hw];refine⟨⟨fun _=>by rw[hw];exact wH2,fun _=>h⟩,by simp;omega,by omega,by omega⟩
  ·rw[if_neg hw];obtain⟨h1,h2,h3,h4⟩:=sO l v (i+1) (by omega);refine⟨h1.trans ⟨xH2 _,fun q=>(vH2.1 q).resolve_left fun q=>hw q.symm⟩,by simp;omega,h3,h4⟩
theorem dD1 :∀(l:List (List UInt8)) (v:List UInt8) (i:Int),posF (i+1) l v=if v∈l then posF i l v+1 else -1
 | [],v,i=>by simp[posF]
 | w::l,v,i=>by
  unfold posF;by_cases hw:w=v
  ·rw[if_pos hw,if_pos hw,if_pos (by rw[hw];exact wH2)]
  ·rw[if_neg hw,if_neg hw,dD1 l v (i+1)];by_cases hm:v∈l
   ·rw[if_pos hm,if_pos (xH2 _ hm)]
   ·rw[if_neg hm,if_neg fun q=>hm ((vH2.1 q).resolve_left fun q=>hw q.symm)]
theorem gm (l:List (List UInt8)) (i:Nat) (hi:i<l.length):(l.map mkS).getD i ByteArray.empty=mkS (l.getD i []):=by rw[uH ByteArray.empty (by simpa using hi),uH [] hi,List.getElem_map]
theorem gO (l:List (List UInt8)) (v:List UInt8) (hl:l.length≤1000000):rA.f (l.map mkS) (mkS v)=some (posF 0 l v,()):=by
 have key:∀(k i:Nat),l.length-i=k→i≤l.length→rA.l1 (l.map mkS) (mkS v) l.length i=some (posF i (l.drop i) v,()):=by
  intro k
  induction k with
  | zero=>
   intro i hk hi;have e:i=l.length:=by omega
   subst e;rw[rA.l1_eq,fJ2];simp(disch:=omega)only[ss];rfl
  | succ k ih=>
   intro i hk hi;have hlt:i<l.length:=by omega
   have hg:=gm l i hlt;have hml:(l.map mkS).length=l.length:=tH2 ..;rw[rA.l1_eq,oC [] hlt];simp only[iE];simp(disch:=omega)only[ss,hml,hg,posF];by_cases h:l.getD i []=v
   ·rw[if_pos h,dp (by rw[h]),cond_true]
   ·rw[if_neg h,dn fun q=>h (jJ q.symm),cond_false];exact ih (i+1) (by omega) (by omega)
 rw[rA.f_eq];have:=key _ 0 rfl (uH2 _);rw[mI2,eI2]at this;rw[tH2];exact this
theorem mJ (l:List (List UInt8)) (v:List UInt8) (hl:l.length≤1000000):zB.f (l.map mkS) (mkS v)=some (decide (v∈l),()):=by rw[zB.f_eq,gO l v hl];simp only[pH2];rw[show decide (posF 0 l v≥0)=decide (v∈l)from decide_eq_decide.2 (sO l v 0 (by omega)).1]
theorem lQ (l:List (List UInt8)) (v:List UInt8) (hl:l.length≤1000000):cC.f (l.map mkS) (mkS v)=some (if v=[]then -1 else posF 0 l v,()):=by
 have key:∀(k i:Nat),l.length-i=k→i≤l.length→cC.l1 (l.map mkS) (mkS v) i=some (if v=[]then -1 else posF i (l.drop i) v,()):=by
  intro k
  induction k with
  | zero=>
   intro i hk hi;have e:i=l.length:=by omega
   subst e;have hml:(l.map mkS).length=l.length:=tH2 ..;rw[cC.l1_eq,fJ2];simp(disch:=omega)only[ss,hml];by_cases hv:v=[]
   ·rw[if_pos hv]
   ·rw[if_neg hv];rfl
  | succ k ih=>
   intro i hk hi;have hlt:i<l.length:=by omega
   have hg:=gm l i hlt;have hml:(l.map mkS).length=l.length:=tH2 ..;have next:=ih (i+1) (by omega) (by omega)
   rw[cC.l1_eq,oC [] hlt];simp only[iE];simp(disch:=omega)only[ss,hml,hg];have hmt:(⟨#[]⟩:ByteArray)=mkS []:=rfl;rw[hmt];by_cases hv:v=[]
   ·rw[if_pos hv]at next ⊢
    have e2:decide (mkS v=mkS [])=true:=dp (by rw[hv]);rw[e2];by_cases h:mkS (l.getD i [])=mkS v
    ·rw[dp h,cond_true,cC.l2_eq];simp(disch:=omega)only[ss];exact next
    ·rw[dn h,cond_false,cC.l2_eq];simp(disch:=omega)only[ss];exact next
   ·rw[if_neg hv]at next ⊢
    have e2:decide (mkS v=mkS [])=false:=dn fun q=>hv (jJ q)
    rw[e2];unfold posF;by_cases h:l.getD i []=v
    ·rw[if_pos h,dp (by rw[h]),cond_true,cC.l2_eq];simp(disch:=omega)only[ss]
    ·rw[if_neg h,dn fun q=>h (jJ q),cond_false,cC.l2_eq];simp(disch:=omega)only[ss];exact next
 rw[cC.f_eq];have:=key _ 0 rfl (uH2 _);rw[mI2,eI2]at this;exact this
theorem uL {s:List UInt8} {n m:Int} (h:isN s n) (g:isN s m):n=m:=sU1 (h.1.symm.trans g.1)
theorem bQ1 :∀p:List (List UInt8),(∃ns,All2 isN p ns) ∨ ∃s∈p,∀n,¬isN s n
 | []=>.inl ⟨[],trivial⟩
 | s::p=>by
  by_cases h:∃n,isN s n
  ·obtain⟨n,hn⟩:=h;rcases bQ1 p with⟨ns,h2⟩ | ⟨t,ht,h2⟩
   ·exact .inl ⟨n::ns,hn,h2⟩
   ·exact .inr ⟨t,xH2 _ ht,h2⟩
  ·exact .inr ⟨s,wH2,fun n hn=>h ⟨n,hn⟩⟩
theorem kL1 {y:List Int} (hy:y.length≤1000000):∃r,vC.f y=some (r,())∧r.length=y.length∧pX (dds r) ∧ ∀x,x∈dds r↔x∈y:=by
 have hs:vC.f y=some (y.mergeSort fun x y=>decide (x≤y),()):=by rw[vC.f_sem];show(bif decide (List.length y≤uC)then some (List.mergeSort (α:=Int) y (fun x y=>decide (x≤y)),())else none)=_;rw[dp (by simp only[uC];omega),cond_true]
 have hp:(y.mergeSort fun x y=>decide (x≤y)).Perm y:=List.mergeSort_perm y _
 have hso:(y.mergeSort fun x y=>decide (x≤y)).Pairwise (· ≤ ·):=by have:=List.pairwise_mergeSort (le:=fun x y:Int=>decide (x≤y)) (fun a b c h1 h2=>by simp at *;omega) (fun a b=>by simp;omega) y;exact this.imp fun h=>by simpa using h
 generalize y.mergeSort (fun x y=>decide (x≤y))=r at hs hp hso;refine⟨r,hs,hp.length_eq,?_,fun x=>?_⟩
 ·cases r with
  | nil=>exact List.Pairwise.nil
  | cons a r=>exact hB1 r a hso
 ·have e:x∈dds r↔x∈r:=by
   cases r with
   | nil=>exact Iff.rfl
   | cons a r=>
    show x∈a::dd a r↔_;rw[vH2,vH2];have:=yP1 r a x;constructor
    ·rintro(h | h)
     ·exact .inl h
     ·rcases this.1 (.inl h)with h | h
      ·exact .inr h
      ·exact .inl h
    ·rintro(h | h)
     ·exact .inl h
     ·rcases this.2 (.inl h)with h | h
      ·exact .inr h
      ·exact .inl h
  rw[e,hp.mem_iff]
noncomputable def tG1 (y:List Int):Option (List Int×Bool×Unit):=bif decide ((y.length:Int)>60)then(some ([],false,()))else((vC.f y).bind fun t3=>(iA.f t3.1).bind fun t4=>some (t4.1,true,()))
theorem eB2 (p:List (List UInt8)) (hp:p.length≤100000) (hpl:∀s∈p,s.length≤100000):∀(k i:Nat) (y:List Int),p.length-i=k→i≤p.length→y.length≤i →
  (∀ns,All2 isN (p.drop i) ns→fC.l1 (p.map mkS) p.length i y=tG1 (y++ns))∧((∃s∈p.drop i,∀n,¬isN s n)→fC.l1 (p.map mkS) p.length i y=some ([],false,())):=by
 have hlim:uC=17179869184:=rfl;have hml:(p.map mkS).length=p.length:=tH2 ..;intro k
 induction k with
 | zero=>
  intro i y hk hi hy;have e:i=p.length:=by omega
  subst e;rw[fC.l1_eq,fJ2];simp(disch:=omega)only[ss,hml];refine⟨fun ns hns=>?_,fun⟨s,hs,_⟩=>by cases hs⟩
  cases ns with
  | nil=>rw[bI2];rfl
  | cons _ _=>exact hns.elim
 | succ k ih=>
  intro i y hk hi hy;have hlt:i<p.length:=by omega
  have hg:=gm p i hlt;rw[fC.l1_eq,oC [] hlt];rcases bM (p.getD i []) (by have:=hpl _ (iD [] hlt);omega)with⟨n,hn,hf⟩ | ⟨hn,n,hf⟩
  ·simp(disch:=omega)only[ss,hml,hg,hf,rH2,hlim];obtain⟨h1,h2⟩:=ih (i+1) (y++[n]) (by omega) (by omega) (by simp;omega);refine⟨fun ns hns=>?_,fun⟨s,hs,hs2⟩=>?_⟩
   ·cases ns with
    | nil=>exact hns.elim
    | cons m ns=>
     have e:=uL hns.1 hn;subst e;refine(h1 ns hns.2).trans ?_;rw[dI2];rfl
   ·refine h2 ?_;rcases vH2.1 hs with rfl | hs
    ·exact absurd hn (hs2 n)
    ·exact⟨s,hs,hs2⟩
  ·simp(disch:=omega)only[ss,hml,hg,hf];refine⟨fun ns hns=>?_,fun _=>trivial⟩
   cases ns with
   | nil=>exact hns.elim
   | cons m ns=>exact absurd hns.1 (hn m)
theorem pV1 (p:List (List UInt8)) (hp:p.length≤100000) (hpl:∀s∈p,s.length≤100000):∀(k i:Nat) (y:List Int),p.length-i=k→i≤p.length→y.length≤i →
  (∀ns,All2 isN (p.drop i) ns→qB.l1 (p.map mkS) i y=((oA.f (y++ns)).bind fun t3=>some (t3.1,true,())))∧((∃s∈p.drop i,∀n,¬isN s n)→qB.l1 (p.map mkS) i y=some ([],false,())):=by
 have hlim:uC=17179869184:=rfl;have hml:(p.map mkS).length=p.length:=tH2 ..;intro k
 induction k with
 | zero=>
  intro i y hk hi hy;have e:i=p.length:=by omega
  subst e;rw[qB.l1_eq,fJ2];simp(disch:=omega)only[ss,hml];refine⟨fun ns hns=>?_,fun⟨s,hs,_⟩=>by cases hs⟩
  cases ns with
  | nil=>rw[bI2]
  | cons _ _=>exact hns.elim
 | succ k ih=>
  intro i y hk hi hy;have hlt:i<p.length:=by omega
  have hg:=gm p i hlt;rw[qB.l1_eq,oC [] hlt];rcases gJ (p.getD i []) (by have:=hpl _ (iD [] hlt);omega)with⟨n,hn,hf⟩ | ⟨hn,n,hf⟩
  ·simp(disch:=omega)only[ss,hml,hg,hf,rH2,hlim];obtain⟨h1,h2⟩:=ih (i+1) (y++[n]) (by omega) (by omega) (by simp;omega);refine⟨fun ns hns=>?_,fun⟨s,hs,hs2⟩=>?_⟩
   ·cases ns with
    | nil=>exact hns.elim
    | cons m ns=>
     have e:=uL hns.1 hn;subst e;refine(h1 ns hns.2).trans ?_;rw[dI2];rfl
   ·refine h2 ?_;rcases vH2.1 hs with rfl | hs
    ·exact absurd hn (hs2 n)
    ·exact⟨s,hs,hs2⟩
  ·simp(disch:=omega)only[ss,hml,hg,hf];refine⟨fun ns hns=>?_,fun _=>trivial⟩
   cases ns with
   | nil=>exact hns.elim
   | cons m ns=>exact absurd hns.1 (hn m)
theorem yP {α β:Type} {R:α→β→Prop}:∀{l:List α} {m:List β},All2 R l m→l.length=m.length
 | [],[],_=>rfl
 | _::l,_::m,h=>by simp[yP h.2]
 | [],_::_,h=>h.elim
 | _::_,[],h=>h.elim
def isL (v:List UInt8) (r:List Int):Prop:=(pX r∧r.length≤60) ∧ ∃ns,All2 isN (segs 44 v) ns∧ns.length≤60 ∧ ∀x,x∈r↔x∈ns
theorem tY1 :∀(l:List Int) (p:Int),(dd p l).length≤l.length
 | [],_=>yH2 _
 | a::l,p=>by unfold dd;have:=tY1 l a;split <;> simp <;> omega
theorem tZ1 (l:List Int):(dds l).length≤l.length:=by
 cases l with
 | nil=>exact yH2 _
 | cons a l=>show(a::dd a l).length≤_;simp[tY1]
theorem fJ (v:List UInt8) (hv:v.length≤50000):
  (∃r,isL v r∧fC.f (mkS v)=some (r,true,())∧qB.f (mkS v)=some (r,true,())) ∨
  ((∀r,¬isL v r)∧fC.f (mkS v)=some ([],false,())∧qB.f (mkS v)=some ([],false,())):=by
 have hsl:=gM 44 v;have hS:pD.f (mkS v) ⟨#[44]⟩=some ((segs 44 v).map mkS,()):=nK (c:=44) v (by omega);have hV:rB.f (mkS v) 44=some ((segs 44 v).map mkS,()):=cK 44 v (by omega);have hml:((segs 44 v).map mkS).length=(segs 44 v).length:=tH2 ..;have h1:=eB2 (segs 44 v) (by omega) (fun s hs=>by have:=hsl.2 s hs;omega) _ 0 [] rfl (uH2 _) (yH2 _);have h2:=pV1 (segs 44 v) (by omega) (fun s hs=>by have:=hsl.2 s hs;omega) _ 0 [] rfl (uH2 _) (yH2 _);rw[mI2,eI2]at h1 h2;have hf1:fC.f (mkS v)=fC.l1 ((segs 44 v).map mkS) (segs 44 v).length 0 []:=by rw[fC.f_eq,hS,←hml];rfl
 have hf2:qB.f (mkS v)=bif decide (((segs 44 v).length:Int)>60)then some ([],false,())else qB.l1 ((segs 44 v).map mkS) 0 []:=by rw[qB.f_eq,hV,←hml];rfl
 rcases bQ1 (segs 44 v)with⟨ns,hns⟩ | hbad
 ·have hlen:=yP hns;have e1:=h1.1 ns hns;have e2:=h2.1 ns hns;rw[aJ2]at e1 e2;by_cases h60:(ns.length:Int)>60
  ·refine .inr ⟨fun r hr=>?_,?_,?_⟩
   ·obtain⟨_,ms,h3,h4,_⟩:=hr;have:=yP h3;omega
   ·rw[hf1,e1];unfold tG1;simp(disch:=omega)only[ss]
   ·rw[hf2];simp(disch:=omega)only[ss]
  ·obtain⟨r,h3,h4,h5,h6⟩:=kL1 (y:=ns) (by omega);obtain⟨q,h7,h8,h9⟩:=fW ns (by omega);have e:q=dds r:=pZ h8 h5 fun x=>(h9 x).trans (h6 x).symm
   subst e;refine .inl ⟨dds r,⟨⟨h5,by have:=tZ1 r;omega⟩,ns,hns,by omega,h6⟩,?_,?_⟩
   ·rw[hf1,e1];unfold tG1;simp(disch:=omega)only[ss,h3,jS r (by omega)]
   ·rw[hf2,e2];simp(disch:=omega)only[ss,h7]
 ·refine .inr ⟨fun r hr=>?_,?_,?_⟩
  ·obtain⟨_,ms,h3,_,_⟩:=hr;obtain⟨s,hs,hs2⟩:=hbad;have:∀(p:List (List UInt8)) (ms:List Int),All2 isN p ms→s∈p → ∃n,isN s n:=by
    intro p
    induction p with
    | nil=>intro ms _ h;cases h
    | cons t p ih=>
     intro ms h hm
     cases ms with
     | nil=>exact h.elim
     | cons m ms=>
      rcases vH2.1 hm with rfl | hm
      ·exact⟨m,h.1⟩
      ·exact ih ms h.2 hm
   obtain⟨n,hn⟩:=this _ ms h3 hs;exact hs2 n hn
  ·rw[hf1,h1.2 hbad]
  ·rw[hf2,h2.2 hbad];cases decide (((segs 44 v).length:Int)>60) <;> rfl
def wd :List (List UInt8):=[[77,79],[84,85],[87,69],[84,72],[70,82],[83,65],[83,85]]
theorem nI :uF.f=some (wd.map mkS,()):=by rw[uF.f_eq];rfl
theorem sP :gF.f=some (wd.map mkS,()):=by rw[gF.f_eq];rfl
theorem nB1 :∀(l:List (List UInt8)) (v:List UInt8) (i:Int),0≤i→posF i l v<i+l.length
 | [],v,i,h=>by simp[posF];omega
 | w::l,v,i,h=>by
  unfold posF;split
  ·simp;omega
  ·have:=nB1 l v (i+1) (by omega);simp;omega
def isD (s:List UInt8) (n w:Int):Prop:=2≤s.length∧w=posF 0 wd (s.drop (s.length-2))∧0≤w∧((s.take (s.length-2)=[]∧n=0)∨(s.take (s.length-2)≠[]∧isN (s.take (s.length-2)) n∧n≠0))
theorem vY1 {s:List UInt8} {n w:Int} (h:isD s n w):0≤w∧w≤6 ∧ -999999999≤n∧n≤999999999:=by
 obtain⟨_,h2,h3,h4⟩:=h;have h5:=nB1 wd (s.drop (s.length-2)) 0 (by omega);have h6:(wd.length:Int)=7:=rfl;refine⟨h3,by omega,?_⟩;rcases h4 with⟨_,rfl⟩ | ⟨_,h7,_⟩
 ·omega
 ·exact h7.2
theorem pT {s:List UInt8} {n w m v:Int} (h:isD s n w) (g:isD s m v):n=m∧w=v:=by
 obtain⟨_,h2,_,h4⟩:=h;obtain⟨_,g2,_,g4⟩:=g;refine⟨?_,by rw[h2,g2]⟩;rcases h4 with⟨h5,h6⟩ | ⟨h5,h6,_⟩ <;> rcases g4 with⟨g5,g6⟩ | ⟨g5,g6,_⟩
 ·rw[h6,g6]
 ·exact absurd h5 g5
 ·exact absurd g5 h5
 ·exact uL h6 g6
theorem xV1 (s:List UInt8) (hs:s.length≤100000):
  (∃n w,isD s n w∧xN.f (mkS s)=some ((n,w,()),true,()))∨((∀n w,¬isD s n w) ∧ ∃d,xN.f (mkS s)=some (d,false,())):=by
 rw[xN.f_eq];by_cases c1:(s.length:Int)<2
 ·refine .inr ⟨fun n w h=>?_,(0,0,()),?_⟩
  ·have:=h.1;omega
  ·simp(disch:=omega)only[ss,szS]
 ·have w1:w6 ((s.length:Int)-2)=((s.length-2:Nat):Int):=by rw[wr (by omega) (by omega)];omega
  have x1:(mkS s).extract (s.length-2) s.length=mkS (s.drop (s.length-2)):=yH (by rw[←szS s,zK,B_mk,B_mk]);have x2:(mkS s).extract 0 (s.length-2)=mkS (s.take (s.length-2)):=yH (by rw[dN,B_mk,B_mk]);have hI:=gO wd (s.drop (s.length-2)) (by decide);have hm:(⟨#[]⟩:ByteArray)=mkS []:=rfl;simp(disch:=omega)only[ss,szS,w1,x1,x2,nI,hI,iE,hm];have hp:=(sO wd (s.drop (s.length-2)) 0 (by omega)).2;by_cases c2:s.take (s.length-2)=[]
  ·have e:decide (mkS (s.take (s.length-2))=mkS [])=true:=dp (by rw[c2]);rw[e,cond_true];by_cases c3:posF 0 wd (s.drop (s.length-2))≥0
   ·rw[dp c3];exact .inl ⟨0,_,⟨by omega,rfl,c3,.inl ⟨c2,rfl⟩⟩,rfl⟩
   ·rw[dn c3];refine .inr ⟨fun n w h=>?_,_,rfl⟩;have h2:=h.2.1;have h3:=h.2.2.1;omega
  ·have e:decide (mkS (s.take (s.length-2))=mkS [])=false:=dn fun q=>c2 (jJ q)
   rw[e,cond_false];rcases bM (s.take (s.length-2)) (by rw[cI2];omega)with⟨n,hn,hf⟩ | ⟨hn,n,hf⟩
   ·rw[hf];simp only[pH2,cond_true];by_cases c4:n=0
    ·simp(disch:=omega)only[ss];refine .inr ⟨fun m w h=>?_,_,rfl⟩;rcases h.2.2.2 with⟨h5,_⟩ | ⟨_,h6,h7⟩
     ·exact c2 h5
     ·exact h7 ((uL h6 hn).trans c4)
    ·simp(disch:=omega)only[ss];by_cases c3:posF 0 wd (s.drop (s.length-2))≥0
     ·rw[dp c3];exact .inl ⟨n,_,⟨by omega,rfl,c3,.inr ⟨c2,hn,c4⟩⟩,rfl⟩
     ·rw[dn c3];refine .inr ⟨fun m w h=>?_,_,rfl⟩;have h2:=h.2.1;have h3:=h.2.2.1;omega
   ·rw[hf];simp only[pH2,cond_false];refine .inr ⟨fun m w h=>?_,_,rfl⟩;rcases h.2.2.2 with⟨h5,_⟩ | ⟨_,h6,_⟩
    ·exact c2 h5
    ·exact hn m h6
theorem kF2 (x4:List ByteArray) (x6 x8 x9:Int):fA.l4 x4 x6 x8 x9=fA.l4a x4 x6 x8 x9 []:=by rw[fA.l4_eq,fA.l4a_eq]
theorem jA2 (x4:List ByteArray) (x6 x8 x9:Int) (b:Bool):fA.l3 x4 x6 x8 x9 b=fA.l3a x4 x6 x8 x9 b []:=by rw[fA.l3_eq,fA.l3a_eq,kF2]
theorem aG2 (x4:List ByteArray) (x6 x7 x8 x9:Int) (b:Bool):fA.l2 x4 x6 x7 x8 x9 b=fA.l2a x4 x6 x7 x8 x9 b []:=by rw[fA.l2_eq,fA.l2a_eq,jA2,jA2,jA2]
theorem tF2 (x4:List ByteArray) (x6:Int):fA.l1 x4 x6=fA.l1a x4 x6 []:=by rw[fA.l1_eq,fA.l1a_eq];simp only[aG2]
theorem xP1 (p:List (List UInt8)) (hp:p.length≤100000) (i:Nat) (hi:i<p.length) (hpl:(p.getD i []).length≤100000) (y:List Int) (hy:y.length≤i):
  (∀n w,isD (p.getD i []) n w→fA.l1a (p.map mkS) i y=fA.l1a (p.map mkS) (i+1:Nat) (y++[7*n+w])) ∧
  ((∀n w,¬isD (p.getD i []) n w)→fA.l1a (p.map mkS) i y=some ([],false,())):=by
 have hlim:uC=17179869184:=rfl;have hml:(p.map mkS).length=p.length:=tH2 ..;have hg:=gm p i hi;generalize hs:p.getD i []=s at hg hpl
 have key:fA.l1a (p.map mkS) i y=bif decide ((s.length:Int)<2)then(some ([],false,()))else
   (bif decide (((s.length-2:Nat):Int)>0)then((eE.f (mkS (s.take (s.length-2)))).bind fun t8=>fA.l2a (p.map mkS) i ((s.length-2:Nat):Int) (if s.drop (s.length-2)=[]then -1 else posF 0 wd (s.drop (s.length-2))) t8.1 t8.2.1 y)
    else fA.l2a (p.map mkS) i ((s.length-2:Nat):Int) (if s.drop (s.length-2)=[]then -1 else posF 0 wd (s.drop (s.length-2))) 0 true y):=by
  rw[fA.l1a_eq];by_cases c1:(s.length:Int)<2
  ·simp(disch:=omega)only[ss,hml,hg,szS]
  ·have w1:w6 ((s.length:Int)-2)=((s.length-2:Nat):Int):=by rw[wr (by omega) (by omega)];omega
   have x1:(mkS s).extract (s.length-2) s.length=mkS (s.drop (s.length-2)):=yH (by rw[←szS s,zK,B_mk,B_mk]);have x2:(mkS s).extract 0 (s.length-2)=mkS (s.take (s.length-2)):=yH (by rw[dN,B_mk,B_mk]);have hW:=lQ wd (s.drop (s.length-2)) (by decide);simp(disch:=omega)only[ss,hml,hg,szS,w1,x1,sP,hW,x2]
 rw[key];by_cases c1:(s.length:Int)<2
 ·rw[dp c1,cond_true];refine⟨fun n w h=>?_,fun _=>rfl⟩;have:=h.1;omega
 ·rw[dn c1,cond_false]
  have hne:s.drop (s.length-2)≠[]:=fun q=>by have:=congrArg List.length q;rw[qI2,hI2]at this;omega
  rw[if_neg hne];have hp2:=(sO wd (s.drop (s.length-2)) 0 (by omega)).2;have hp3:=nB1 wd (s.drop (s.length-2)) 0 (by omega);have h7:(wd.length:Int)=7:=rfl;have tail:∀n w,isD s n w→w=posF 0 wd (s.drop (s.length-2))→fA.l3a (p.map mkS) i w n false y=fA.l1a (p.map mkS) (i+1:Nat) (y++[7*n+w]):=by intro n w h _;have hb:=vY1 h;rw[fA.l3a_eq];simp(disch:=omega)only[ss,fA.l4a_eq,rH2,hlim];rfl
  have stop:∀n w,fA.l3a (p.map mkS) i w n true y=some ([],false,()):=fun n w=>by rw[fA.l3a_eq,cond_true]
  by_cases c3:posF 0 wd (s.drop (s.length-2))<0
  ·refine⟨fun n w h=>?_,fun _=>?_⟩
   ·have h2:=h.2.1;have h3:=h.2.2.1;omega
   ·by_cases c2:((s.length-2:Nat):Int)>0
    ·rw[dp c2,cond_true];rcases gJ (s.take (s.length-2)) (by rw[cI2];omega)with⟨n,hn,hf⟩ | ⟨hn,n,hf⟩
     ·simp(disch:=omega)only[ss,hf,fA.l2a_eq,stop]
     ·simp(disch:=omega)only[ss,hf,fA.l2a_eq,stop]
    ·rw[dn c2,cond_false];simp(disch:=omega)only[ss,fA.l2a_eq,stop]
  ·by_cases c2:((s.length-2:Nat):Int)>0
   ·have hnt:s.take (s.length-2)≠[]:=fun q=>by have:=congrArg List.length q;rw[cI2,hI2]at this;omega
    rw[dp c2,cond_true];rcases gJ (s.take (s.length-2)) (by rw[cI2];omega)with⟨n,hn,hf⟩ | ⟨hn,n,hf⟩
    ·simp(disch:=omega)only[ss,hf,fA.l2a_eq];by_cases c4:n=0
     ·rw[dp c4,stop];refine⟨fun m w h=>?_,fun _=>rfl⟩;rcases h.2.2.2 with⟨h5,_⟩ | ⟨_,h6,h8⟩
      ·exact absurd h5 hnt
      ·exact absurd ((uL h6 hn).trans c4) h8
     ·have hD:isD s n (posF 0 wd (s.drop (s.length-2))):=⟨by omega,rfl,by omega,.inr ⟨hnt,hn,c4⟩⟩
      rw[dn c4,tail n _ hD rfl];refine⟨fun m w h=>?_,fun h=>absurd hD (h _ _)⟩;obtain⟨e1,e2⟩:=pT h hD;rw[e1,e2]
    ·simp(disch:=omega)only[ss,hf,fA.l2a_eq,stop];refine⟨fun m w h=>?_,fun _=>trivial⟩;rcases h.2.2.2 with⟨h5,_⟩ | ⟨_,h6,_⟩
     ·exact absurd h5 hnt
     ·exact absurd h6 (hn m)
   ·have hnt:s.take (s.length-2)=[]:=iI2 (by rw[cI2];omega);have hD:isD s 0 (posF 0 wd (s.drop (s.length-2))):=⟨by omega,rfl,by omega,.inl ⟨hnt,rfl⟩⟩
    rw[dn c2,cond_false];simp(disch:=omega)only[ss,fA.l2a_eq];rw[tail 0 _ hD rfl];refine⟨fun m w h=>?_,fun h=>absurd hD (h _ _)⟩;obtain⟨e1,e2⟩:=pT h hD;rw[e1,e2]
abbrev uV (l:List Dy):Prop:=l.Pairwise dyLt
theorem cX :∀{a b:List Dy},uV a→uV b→(∀x,x∈a↔x∈b)→a=b
 | [],[],_,_,_=>rfl
 | [],y::b,_,_,h=>by have:=(h y).2 wH2;cases this
 | x::a,[],_,_,h=>by have:=(h x).1 wH2;cases this
 | x::a,y::b,ha,hb,h=>by
  have ha:=dJ2.1 ha;have hb:=dJ2.1 hb;have irr:∀q:Dy,¬dyLt q q:=fun q hq=>by unfold dyLt at hq;omega
  have asy:∀q r:Dy,dyLt q r→dyLt r q→False:=fun q r h g=>by unfold dyLt at *;omega
  have e:x=y:=by
   have h1:=(h x).1 wH2;have h2:=(h y).2 wH2;rcases vH2.1 h1 with h1 | h1
   ·exact h1
   ·rcases vH2.1 h2 with h2 | h2
    ·exact h2.symm
    ·exact(asy _ _ (hb.1 x h1) (ha.1 y h2)).elim
  subst e;rw[cX ha.2 hb.2 fun z=>?_];have h3:=h z;simp only[vH2]at h3;constructor
  ·intro hz;rcases h3.1 (.inr hz)with h4 | h4
   ·exact(irr _ (h4 ▸ ha.1 z hz)).elim
   ·exact h4
  ·intro hz;rcases h3.2 (.inr hz)with h4 | h4
   ·exact(irr _ (h4 ▸ hb.1 z hz)).elim
   ·exact h4
theorem tN1 :∀(l:List Dy) (p x:Dy),x∈ddT p l∨x=p↔x∈l∨x=p
 | [],p,x=>by simp[ddT]
 | a::l,p,x=>by
  unfold ddT;have ih:=tN1 l a x;by_cases h:a=p
  ·subst h;rw[if_pos rfl,ih,vH2];constructor
   ·rintro(h | h)
    ·exact .inl (.inr h)
    ·exact .inr h
   ·rintro((h | h) | h)
    ·exact .inr h
    ·exact .inl h
    ·exact .inr h
  ·rw[if_neg h,vH2,vH2];constructor
   ·rintro((h1 | h1) | h1)
    ·exact .inl (.inl h1)
    ·rcases ih.1 (.inl h1)with h2 | h2
     ·exact .inl (.inr h2)
     ·exact .inl (.inl h2)
    ·exact .inr h1
   ·rintro((h1 | h1) | h1)
    ·exact .inl (.inl h1)
    ·rcases ih.2 (.inl h1)with h2 | h2
     ·exact .inl (.inr h2)
     ·exact .inl (.inl h2)
    ·exact .inr h1
def dyLe (a b:Dy):Prop:=a.1<b.1∨a.1=b.1∧a.2.1≤b.2.1
theorem sZ1 {a b:Dy} (h:dyLe a b) (hne:¬b=a):dyLt a b:=by
 obtain⟨a1,a2,⟨⟩⟩:=a;obtain⟨b1,b2,⟨⟩⟩:=b;unfold dyLe at h;unfold dyLt;simp only at h ⊢;by_cases h1:a1=b1
 ·by_cases h2:a2=b2
  ·exact absurd (by rw[h1,h2]) hne
  ·omega
 ·omega
theorem cE1 :∀(l:List Dy) (p:Dy),(p::l).Pairwise dyLe→uV (p::ddT p l)
 | [],p,_=>List.pairwise_singleton _ _
 | a::l,p,h=>by
  unfold ddT;rw[dJ2]at h;have ih:=cE1 l a h.2;by_cases he:a=p
  ·subst he;rw[if_pos rfl];exact ih
  ·rw[if_neg he];have hlt:dyLt p a:=sZ1 (h.1 a wH2) he;refine dJ2.2 ⟨fun b hb=>?_,ih⟩;rcases vH2.1 hb with rfl | hb
   ·exact hlt
   ·have:=(dJ2.1 ih).1 b hb;unfold dyLt at *;omega
theorem yT1 :∀(l:List Dy) (p:Dy),(ddT p l).length≤l.length
 | [],_=>yH2 _
 | a::l,p=>by unfold ddT;have:=yT1 l a;split <;> simp <;> omega
theorem rN1 {y:List Dy} (hy:y.length≤1000000) (hb:∀d∈y,-1000000000≤d.1∧d.1≤1000000000∧0≤d.2.1∧d.2.1≤6):
  ∃r,nC.f y ()=some (r,(),())∧r.length=y.length∧uV (ddsT r)∧(∀x,x∈ddsT r↔x∈y)∧(ddsT r).length≤y.length:=by
 have hall:y.all zI=true:=lJ2.2 fun d hd=>by have:=hb d hd;unfold zI small;simp only[sH2,decide_eq_true_eq];omega
 obtain⟨r,hr⟩:∃r:List Dy,gN zI jA1 nX y=some r:=by unfold gN;rw[hall];exact⟨_,rfl⟩
 have hp:List.Perm (α:=Dy) r y:=sN pD1 hr;have hso0:List.Pairwise (α:=Dy) (fun a b=>¬nX b a<0) r:=oS pD1 hr
 have hso:r.Pairwise dyLe:=hso0.imp fun {a b} h=>by have h2:=aA1 b.1 b.2.1 a.1 a.2.1;have h3:decide (aP b.1 b.2.1 a.1 a.2.1<0)=false:=decide_eq_false h;rw[h3]at h2;have:=of_decide_eq_false h2.symm;unfold dyLe;omega
 have hf:nC.f y ()=some (r,(),()):=by rw[nC.f_sem];show(bif decide (List.length y≤uC)then(gN zI jA1 nX y).map (fun ys=>(ys,(),()))else none)=_;rw[dp (by simp only[uC];omega),cond_true,hr];rfl
 refine⟨r,hf,hp.length_eq,?_,fun x=>?_,?_⟩
 ·cases r with
  | nil=>exact List.Pairwise.nil
  | cons a r=>exact cE1 r a hso
 ·have e:x∈ddsT r↔x∈r:=by
   cases r with
   | nil=>exact Iff.rfl
   | cons a r=>
    show x∈a::ddT a r↔_;rw[vH2,vH2];have:=tN1 r a x;constructor
    ·rintro(h | h)
     ·exact .inl h
     ·rcases this.1 (.inl h)with h | h
      ·exact .inr h
      ·exact .inl h
    ·rintro(h | h)
     ·exact .inl h
     ·rcases this.2 (.inl h)with h | h
      ·exact .inr h
      ·exact .inl h
  rw[e,hp.mem_iff]
 ·rw[←hp.length_eq]
  cases r with
  | nil=>exact yH2 _
  | cons a r=>show(a::ddT a r).length≤_;simp[yT1]
def isDy (s:List UInt8) (d:Dy):Prop:=isD s d.1 d.2.1
theorem oT1 :∀p:List (List UInt8),(∃ds:List Dy,All2 isDy p ds) ∨ ∃s∈p,∀n w,¬isD s n w
 | []=>.inl ⟨[],trivial⟩
 | s::p=>by
  by_cases h:∃n w,isD s n w
  ·obtain⟨n,w,hn⟩:=h;rcases oT1 p with⟨ns,h2⟩ | ⟨t,ht,h2⟩
   ·exact .inl ⟨(n,w,())::ns,hn,h2⟩
   ·exact .inr ⟨t,xH2 _ ht,h2⟩
  ·exact .inr ⟨s,wH2,fun n w hn=>h ⟨n,w,hn⟩⟩
noncomputable def cP1 (y:List Dy):Option (List Dy×Bool×Unit):=bif decide ((y.length:Int)>60)then(some ([],false,()))else((nC.f y ()).bind fun t3=>(dA.f t3.1).bind fun t4=>some (t4.1,true,()))
theorem xU1 (p:List (List UInt8)) (hp:p.length≤100000) (hpl:∀s∈p,s.length≤100000):∀(k i:Nat) (y:List Dy),p.length-i=k→i≤p.length→y.length≤i →
  (∀ds,All2 isDy (p.drop i) ds→bD.l1 (p.map mkS) p.length i y=cP1 (y++ds))∧((∃s∈p.drop i,∀n w,¬isD s n w)→bD.l1 (p.map mkS) p.length i y=some ([],false,())):=by
 have hlim:uC=17179869184:=rfl;have hml:(p.map mkS).length=p.length:=tH2 ..;intro k
 induction k with
 | zero=>
  intro i y hk hi hy;have e:i=p.length:=by omega
  subst e;rw[bD.l1_eq,fJ2];simp(disch:=omega)only[ss,hml];refine⟨fun ns hns=>?_,fun⟨s,hs,_⟩=>by cases hs⟩
  cases ns with
  | nil=>rw[bI2];rfl
  | cons _ _=>exact hns.elim
 | succ k ih=>
  intro i y hk hi hy;have hlt:i<p.length:=by omega
  have hg:=gm p i hlt;rw[bD.l1_eq,oC [] hlt];rcases xV1 (p.getD i []) (by have:=hpl _ (iD [] hlt);omega)with⟨n,w,hn,hf⟩ | ⟨hn,d,hf⟩
  ·simp(disch:=omega)only[ss,hml,hg,hf,rH2,hlim];obtain⟨h1,h2⟩:=ih (i+1) (y++[(n,w,())]) (by omega) (by omega) (by simp;omega);refine⟨fun ns hns=>?_,fun⟨s,hs,hs2⟩=>?_⟩
   ·cases ns with
    | nil=>exact hns.elim
    | cons m ns=>
     obtain⟨m1,m2,⟨⟩⟩:=m;obtain⟨e1,e2⟩:=pT hns.1 hn;simp only at e1 e2;subst e1 e2;refine(h1 ns hns.2).trans ?_;rw[dI2];rfl
   ·refine h2 ?_;rcases vH2.1 hs with rfl | hs
    ·exact absurd hn (hs2 n w)
    ·exact⟨s,hs,hs2⟩
  ·simp(disch:=omega)only[ss,hml,hg,hf];refine⟨fun ns hns=>?_,fun _=>trivial⟩
   cases ns with
   | nil=>exact hns.elim
   | cons m ns=>exact absurd hns.1 (hn _ _)
def keyD (d:Dy):Int:=7*d.1+d.2.1
noncomputable def yC2 (y:List Int):Option (List Dy×Bool×Unit):=(oA.f y).bind fun t9=>fA.l5 t9.1 0 []
theorem pT1 (p:List (List UInt8)) (hp:p.length≤100000) (hpl:∀s∈p,s.length≤100000):∀(k i:Nat) (y:List Int),p.length-i=k→i≤p.length→y.length≤i →
  (∀ds,All2 isDy (p.drop i) ds→fA.l1a (p.map mkS) i y=yC2 (y++ds.map keyD))∧((∃s∈p.drop i,∀n w,¬isD s n w)→fA.l1a (p.map mkS) i y=some ([],false,())):=by
 have hml:(p.map mkS).length=p.length:=tH2 ..;intro k
 induction k with
 | zero=>
  intro i y hk hi hy;have e:i=p.length:=by omega
  subst e;rw[fA.l1a_eq,fJ2];simp(disch:=omega)only[ss,hml];refine⟨fun ns hns=>?_,fun⟨s,hs,_⟩=>by cases hs⟩
  cases ns with
  | nil=>rw[aL2,bI2];rfl
  | cons _ _=>exact hns.elim
 | succ k ih=>
  intro i y hk hi hy;have hlt:i<p.length:=by omega
  obtain⟨g1,g2⟩:=xP1 p hp i hlt (hpl _ (iD [] hlt)) y hy;rw[oC [] hlt];by_cases h:∃n w,isD (p.getD i []) n w
  ·obtain⟨n,w,hn⟩:=h;rw[g1 n w hn];obtain⟨h1,h2⟩:=ih (i+1) (y++[7*n+w]) (by omega) (by omega) (by simp;omega);refine⟨fun ns hns=>?_,fun⟨s,hs,hs2⟩=>?_⟩
   ·cases ns with
    | nil=>exact hns.elim
    | cons m ns=>
     obtain⟨m1,m2,⟨⟩⟩:=m;obtain⟨e1,e2⟩:=pT hns.1 hn;simp only at e1 e2;subst e1 e2;refine(h1 ns hns.2).trans ?_;rw[dI2];rfl
   ·refine h2 ?_;rcases vH2.1 hs with rfl | hs
    ·exact absurd hn (hs2 n w)
    ·exact⟨s,hs,hs2⟩
  ·have hn:∀n w,¬isD (p.getD i []) n w:=fun n w hn=>h ⟨n,w,hn⟩
   rw[g2 hn];refine⟨fun ns hns=>?_,fun _=>rfl⟩
   cases ns with
   | nil=>exact hns.elim
   | cons m ns=>exact absurd hns.1 (hn _ _)
def decD (k:Int):Dy:=(k/7,k%7,())
theorem eH2 (q:List Int) (hq:q.length≤100000) (hb:∀k∈q,-10000000000≤k∧k≤10000000000):∀(k i:Nat) (y:List Dy),q.length-i=k→i≤q.length→y.length≤i→fA.l5 q i y=some (y++(q.drop i).map decD,true,()):=by
 have hlim:uC=17179869184:=rfl;intro k
 induction k with
 | zero=>
  intro i y hk hi hy;have e:i=q.length:=by omega
  subst e;rw[fA.l5_eq,fJ2];simp(disch:=omega)only[ss];simp
 | succ k ih=>
  intro i y hk hi hy;have hlt:i<q.length:=by omega
  have hk2:=hb _ (iD 0 hlt);rw[fA.l5_eq,oC 0 hlt];simp only[oJ2];generalize q.getD i 0=v at hk2;have e1:w6 (Int.tmod v 7+7)=Int.tmod v 7+7:=by have h1:=Int.tmod_lt_of_pos v (show(0:Int)<7 by omega);have h2:=Int.lt_tmod_of_pos v (show(0:Int)<7 by omega);exact wr (by omega) (by omega)
  have e2:Int.tmod (Int.tmod v 7+7) 7=v%7:=by
   by_cases h:0≤v
   ·rw[mK2 h,mK2 (by omega)];omega
   ·have h1:Int.tmod v 7 = -((-v)%7):=by
     have:Int.tmod v 7 = -Int.tmod (-v) 7:=by rw[Int.neg_tmod,Int.neg_neg]
     rw[this,mK2 (by omega)]
    rw[h1,mK2 (by omega)];omega
  have e3:Int.tdiv (v-v%7) 7=v/7:=by
   have:v-v%7=(v/7)*7:=by omega
   rw[this];exact Int.mul_tdiv_cancel _ (by omega)
  have e4:w6 (v-v%7)=v-v%7:=wr (by omega) (by omega);have e5:w6 (v/7)=v/7:=wr (by omega) (by omega);rw[e1,e2,e4,e3,e5];simp(disch:=omega)only[ss,rH2,hlim];refine(ih (i+1) (y++[(v/7,v%7,())]) (by omega) (by omega) (by simp;omega)).trans ?_;rw[dI2];rfl
def isDL (v:List UInt8) (r:List Dy):Prop:=(uV r∧r.length≤60) ∧ ∃ds,All2 isDy (segs 44 v) ds∧ds.length≤60 ∧ ∀x,x∈r↔x∈ds
theorem qY1 :∀{p:List (List UInt8)} {ds:List Dy},All2 isDy p ds → ∀d∈ds,-1000000000≤d.1∧d.1≤1000000000∧0≤d.2.1∧d.2.1≤6
 | [],[],_,d,hd=>by cases hd
 | s::p,x::ds,h,d,hd=>by
  rcases vH2.1 hd with rfl | hd
  ·have:=vY1 h.1;omega
  ·exact qY1 h.2 d hd
 | [],_::_,h,_,_=>h.elim
 | _::_,[],h,_,_=>h.elim
theorem kF1 (v:List UInt8) (hv:v.length≤50000):
  (∃r,isDL v r∧bD.f (mkS v)=some (r,true,())∧fA.f (mkS v)=some (r,true,())) ∨
  ((∀r,¬isDL v r)∧bD.f (mkS v)=some ([],false,())∧fA.f (mkS v)=some ([],false,())):=by
 have hsl:=gM 44 v;have hS:pD.f (mkS v) ⟨#[44]⟩=some ((segs 44 v).map mkS,()):=nK (c:=44) v (by omega);have hV:rB.f (mkS v) 44=some ((segs 44 v).map mkS,()):=cK 44 v (by omega);have hml:((segs 44 v).map mkS).length=(segs 44 v).length:=tH2 ..;have h1:=xU1 (segs 44 v) (by omega) (fun s hs=>by have:=hsl.2 s hs;omega) _ 0 [] rfl (uH2 _) (yH2 _);have h2:=pT1 (segs 44 v) (by omega) (fun s hs=>by have:=hsl.2 s hs;omega) _ 0 [] rfl (uH2 _) (yH2 _);rw[mI2,eI2]at h1 h2;have hf1:bD.f (mkS v)=bD.l1 ((segs 44 v).map mkS) (segs 44 v).length 0 []:=by rw[bD.f_eq,hS,←hml];rfl
 have hf2:fA.f (mkS v)=bif decide (((segs 44 v).length:Int)>60)then some ([],false,())else fA.l1a ((segs 44 v).map mkS) 0 []:=by rw[fA.f_eq,hV,←hml,←tF2];rfl
 rcases oT1 (segs 44 v)with⟨ds,hds⟩ | hbad
 ·have hlen:=yP hds;have hbd:=qY1 hds;have e1:=h1.1 ds hds;have e2:=h2.1 ds hds;rw[aJ2]at e1 e2;by_cases h60:(ds.length:Int)>60
  ·refine .inr ⟨fun r hr=>?_,?_,?_⟩
   ·obtain⟨_,ms,h3,h4,_⟩:=hr;have:=yP h3;omega
   ·rw[hf1,e1];unfold cP1;simp(disch:=omega)only[ss]
   ·rw[hf2];simp(disch:=omega)only[ss]
  ·obtain⟨r,h3,h4,h5,h6,h6l⟩:=rN1 (y:=ds) (by omega) hbd;have hkl:(ds.map keyD).length=ds.length:=tH2 ..;obtain⟨q,h7,h8,h9⟩:=fW (ds.map keyD) (by omega)
   have hqb:∀k∈q,-10000000000≤k∧k≤10000000000:=fun k hk=>by obtain⟨d,hd,rfl⟩:=pI2.1 ((h9 k).1 hk);have:=hbd d hd;unfold keyD;omega
   have hdk:∀d∈ds,decD (keyD d)=d:=fun d hd=>by have:=hbd d hd;obtain⟨a,b,⟨⟩⟩:=d;unfold decD keyD;simp only at this ⊢;rw[show(7*a+b)/7=a by omega,show(7*a+b)%7=b by omega]
   have hrq:uV (q.map decD):=by rw[uV,List.pairwise_map];exact h8.imp fun {a b} h=>by unfold dyLt decD;simp only;omega
   have hmem:∀x,x∈q.map decD↔x∈ds:=fun x=>by
    rw[pI2];constructor
    ·rintro⟨k,hk,rfl⟩;obtain⟨d,hd,rfl⟩:=pI2.1 ((h9 k).1 hk);rw[hdk d hd];exact hd
    ·intro hx;exact⟨keyD x,(h9 _).2 (pI2.2 ⟨x,hx,rfl⟩),hdk x hx⟩
   have e:q.map decD=ddsT r:=cX hrq h5 fun x=>(hmem x).trans (h6 x).symm
   have hql:q.length≤60:=by have:=congrArg List.length e;rw[tH2]at this;omega
   have h10:=eH2 q (by omega) hqb _ 0 [] rfl (uH2 _) (yH2 _);rw[mI2,aJ2,eI2,e]at h10;refine .inl ⟨ddsT r,⟨⟨h5,by omega⟩,ds,hds,by omega,h6⟩,?_,?_⟩
   ·rw[hf1,e1];unfold cP1;simp(disch:=omega)only[ss,h3,oA1 r (by omega)]
   ·rw[hf2,e2];unfold yC2;simp(disch:=omega)only[ss,h7,h10]
 ·refine .inr ⟨fun r hr=>?_,?_,?_⟩
  ·obtain⟨_,ms,h3,_,_⟩:=hr;obtain⟨s,hs,hs2⟩:=hbad;have:∀(p:List (List UInt8)) (ms:List Dy),All2 isDy p ms→s∈p → ∃n w,isD s n w:=by
    intro p
    induction p with
    | nil=>intro ms _ h;cases h
    | cons t p ih=>
     intro ms h hm
     cases ms with
     | nil=>exact h.elim
     | cons m ms=>
      rcases vH2.1 hm with rfl | hm
      ·exact⟨_,_,h.1⟩
      ·exact ih ms h.2 hm
   obtain⟨n,w,hn⟩:=this _ ms h3 hs;exact hs2 n w hn
  ·rw[hf1,h1.2 hbad]
  ·rw[hf2,h2.2 hbad];cases decide (((segs 44 v).length:Int)>60) <;> rfl
end Go.GV.YtegmfagkklekaaaGreatDoor
