/-
Part of the words that MeetTexts is proved with: no statement of its own, no conditions.
-/
import Derived.Test.YtegmfagkklekaaaGreatDoorFMeetTextsu
set_option linter.unusedVariables false
set_option linter.unusedSimpArgs false
namespace Go.GV.YtegmfagkklekaaaGreatDoor
open Go.Proofs
theorem vT (y:Int) (hy:1≤y):fst_ (y+1)=fst_ y+cum y 13:=by
 unfold fst_ cum cumT
 have e:(if 3≤(13:Int)∧eR y=true then(1:Int)else 0)=y/4-(y-1)/4-(y/100-(y-1)/100)+(y/400-(y-1)/400):=by
  unfold eR;by_cases h1:y%4=0
  ·by_cases h2:y%100=0
   ·by_cases h5:y%400=0
    ·rw[if_pos ⟨by omega,by simp[h1,h2,h5]⟩];omega
    ·rw[if_neg (by simp[h1,h2,h5])];omega
   ·rw[if_pos ⟨by omega,by simp[h1,h2]⟩];omega
  ·rw[if_neg (by simp[h1])];omega
 rw[e];simp;omega
theorem fE2 (y:Int):365≤cum y 13∧cum y 13≤366:=by unfold cum cumT;split <;> (simp;try omega)
theorem qV1 {a b:Int} (h0:1≤a) (h:a<b):fst_ a+365≤fst_ b:=by
 obtain⟨k,hk⟩:=wI2 (show 0≤b-a-1 by omega);have e:b=a+1+(k:Int):=by omega
 subst e;clear hk h
 induction k with
 | zero=>
  have:=vT a h0;have:=fE2 a;simp;omega
 | succ k ih=>
  have:=vT (a+1+(k:Int)) (by omega);have:=fE2 (a+1+(k:Int));rw[show a+1+((k+1:Nat):Int)=a+1+(k:Int)+1 by omega];omega
theorem oL {a b:Int} (h0:1≤a) (h:a≤b):fst_ a≤fst_ b:=by
 rcases Int.lt_or_eq_of_le h with h | h
 ·have:=qV1 h0 h;omega
 ·rw[h];exact Int.le_refl _
theorem zA2 :fst_ 1 = -719162:=by decide
theorem vW :fst_ 10000=2932897:=by decide
theorem zZ1 (y:Int):cum y 1=0:=by unfold cum cumT;simp
theorem uI1 (y:Int) {a b:Int} (h0:1≤a) (h:a≤b) (h1:b≤13):cum y a≤cum y b:=by
 obtain⟨k,hk⟩:=wI2 (show 0≤b-a by omega);have e:b=a+(k:Int):=by omega
 subst e;clear hk h
 induction k with
 | zero=>simp
 | succ k ih=>
  have:=ih (by omega);have h2:=aM y (a+(k:Int)) (by omega) (by omega);have:=qO y (a+(k:Int));rw[show a+((k+1:Nat):Int)=a+(k:Int)+1 by omega,h2];omega
theorem iZ1 (n:Int) (h1: -719162≤n) (h2:n≤2932896):∃y,1≤y∧y≤9999∧fst_ y≤n∧n<fst_ (y+1):=by
 have key:∀k:Nat,k≤9999→n<fst_ (1+(k:Int)) → ∃y,1≤y∧y≤9999∧fst_ y≤n∧n<fst_ (y+1):=by
  intro k
  induction k with
  | zero=>
   intro _ h;rw[show(1:Int)+((0:Nat):Int)=1 from rfl,zA2]at h;omega
  | succ k ih=>
   intro hk h;by_cases c:n<fst_ (1+(k:Int))
   ·exact ih (by omega) c
   ·exact⟨1+(k:Int),by omega,by omega,by omega,by rw[show(1:Int)+(k:Int)+1=1+((k+1:Nat):Int) by omega];exact h⟩
 refine key 9999 (yH2 _) ?_;rw[show(1:Int)+((9999:Nat):Int)=10000 from rfl,vW];omega
theorem jW1 (y d:Int) (h1:0≤d) (h2:d<cum y 13):∃m,1≤m∧m≤12∧cum y m≤d∧d<cum y (m+1):=by
 have key:∀k:Nat,k≤12→d<cum y (1+(k:Int)) → ∃m,1≤m∧m≤12∧cum y m≤d∧d<cum y (m+1):=by
  intro k
  induction k with
  | zero=>
   intro _ h;rw[show(1:Int)+((0:Nat):Int)=1 from rfl,zZ1]at h;omega
  | succ k ih=>
   intro hk h;by_cases c:d<cum y (1+(k:Int))
   ·exact ih (by omega) c
   ·exact⟨1+(k:Int),by omega,by omega,by omega,by rw[show(1:Int)+(k:Int)+1=1+((k+1:Nat):Int) by omega];exact h⟩
 exact key 12 (yH2 _) h2
def iK1 (n y m d:Int):Prop:=nL y m d=true∧fst_ y+d-1+cum y m=n
theorem sQ {y m d:Int}:nL y m d=true↔1≤y∧y≤9999∧1≤d∧d≤mlen y m:=by unfold nL;simp only[sH2,decide_eq_true_eq,and_assoc]
theorem zO1 {n y m d:Int} (h:iK1 n y m d):fst_ y≤n∧n<fst_ (y+1)∧1≤m∧m≤12 ∧ -719162≤n∧n≤2932896:=by obtain⟨h1,h2⟩:=h;obtain⟨h3,h4,h5,h6⟩:=sQ.1 h1;have hm:=(qO y m).2.2 (by omega);have hc:=aM y m hm.1 hm.2;have hb:=nM y m;have hs:=vT y h3;have hmo:=uI1 y (a:=m+1) (b:=13) (by omega) (by omega) (by omega);have h7:=oL (a:=1) (b:=y) (by omega) h3;have h8:=oL (a:=y+1) (b:=10000) (by omega) (by omega);rw[zA2]at h7;rw[vW]at h8;exact⟨by omega,by omega,hm.1,hm.2,by omega,by omega⟩
theorem sE2 (y d0 M:Int) (hy:1≤y) (hy2:y≤9999) (h1:0≤d0) (h2:M≤12) (h3:cum y M≤d0) (h4:d0<cum y (M+1)):∀(k:Nat) (m:Int),M-m=k→1≤m →
  lB.l5 y (d0-cum y m) m=some (y,M,d0-cum y M+1,0,())∧sC.l2 y (d0-cum y m) m=some (y,M,d0-cum y M+1,0,()):=by
 intro k
 induction k with
 | zero=>
  intro m hk hm;have e:m=M:=by omega
  subst e;have hc:=aM y m hm h2;have hb:=nM y m;have hb2:=nM y (m+1);rw[lB.l5_eq,sC.l2_eq,cP y m (by omega),uK y m (by omega)];simp(disch:=omega)only[ss,ge_iff_le];exact⟨trivial,trivial⟩
 | succ k ih=>
  intro m hk hm;have hc:=aM y m hm (by omega);have hmo:=uI1 y (a:=m+1) (b:=M) (by omega) (by omega) (by omega);have hb:=nM y m;have hb1:=nM y M;have hb2:=nM y (m+1);have hb3:=nM y (M+1);rw[lB.l5_eq,sC.l2_eq,cP y m (by omega),uK y m (by omega)];have e:d0-cum y m-mlen y m=d0-cum y (m+1):=by omega
  simp(disch:=omega)only[ss,ge_iff_le];rw[e];exact ih (m+1) (by omega) (by omega)
theorem rU1 (y:Int) (hy:1≤y) (hy2:y≤10000):sF.f y 1 1=some (fst_ y,()):=by
 rw[qS y 1 1 hy hy2 (by omega) (by omega) (by omega) (by omega),zZ1]
 congr 2
 omega
theorem oD2 (n Y:Int) (hY:1≤Y) (h1:fst_ Y≤n) (h2:n<fst_ (Y+1)):∀(k:Nat) (z:Int),z-Y=k→z≤9999→lB.l4 n z=lB.l5 Y (n-fst_ Y) 1:=by
 intro k;have hfb:=gS (Y+1) (by omega)
 induction k with
 | zero=>
  intro z hk hz;have e:z=Y:=by omega
  subst e;have hfb:=gS z (by omega) (by omega);have hfb1:=gS (z+1) (by omega) (by omega);rw[lB.l4_eq,rU1 z (by omega) (by omega)];simp(disch:=omega)only[ss,gt_iff_lt]
 | succ k ih=>
  intro z hk hz;have hm:=oL (a:=Y+1) (b:=z) (by omega) (by omega);have hfb:=gS z (by omega) (by omega);rw[lB.l4_eq,rU1 z (by omega) (by omega)];simp(disch:=omega)only[ss,gt_iff_lt];exact ih (z-1) (by omega) (by omega)
theorem vE2 (n Y:Int) (hY:1≤Y) (hY2:Y≤9999) (h1:fst_ Y≤n) (h2:n<fst_ (Y+1)):∀(k:Nat) (y:Int),(Y-y).toNat=k→1≤y→y≤9999 → ∃z,Y≤z∧z≤9999∧lB.l1 n y=lB.l4 n z:=by
 intro k
 induction k with
 | zero=>
  intro y hk hy hy2;refine⟨y,by omega,hy2,?_⟩;rw[lB.l1_eq];by_cases c:y<9999
  ·have hm:=oL (a:=Y+1) (b:=y+1) (by omega) (by omega);have hw:w6 (y+1)=y+1:=wr (by omega) (by omega);rw[hw,rU1 (y+1) (by omega) (by omega)];simp(disch:=omega)only[ss,lB.l2_eq,lB.l3_eq]
  ·simp(disch:=omega)only[ss,lB.l2_eq,lB.l3_eq]
 | succ k ih=>
  intro y hk hy hy2;have hm:=oL (a:=y+1) (b:=Y) (by omega) (by omega);have hw:w6 (y+1)=y+1:=wr (by omega) (by omega);obtain⟨z,z1,z2,z3⟩:=ih (y+1) (by omega) (by omega) (by omega);refine⟨z,z1,z2,?_⟩;rw[lB.l1_eq,hw,rU1 (y+1) (by omega) (by omega)];simp(disch:=omega)only[ss,lB.l2_eq];exact z3
theorem rC2 (n Y:Int) (hY:1≤Y) (hY2:Y≤9999) (h1:fst_ Y≤n) (h2:n<fst_ (Y+1)):∀(k:Nat) (y:Int),Y-y=k→1≤y→sC.l1 n y=sC.l2 Y (n-fst_ Y) 1:=by
 intro k
 induction k with
 | zero=>
  intro y hk hy;have e:y=Y:=by omega
  subst e;have hfb:=gS y (by omega) (by omega);have hfb1:=gS (y+1) (by omega) (by omega);have hw:w6 (y+1)=y+1:=wr (by omega) (by omega);rw[sC.l1_eq,hw,tJ (y+1) (by omega) (by omega),tJ y (by omega) (by omega)];simp(disch:=omega)only[ss]
 | succ k ih=>
  intro y hk hy;have hm:=oL (a:=y+1) (b:=Y) (by omega) (by omega);have hw:w6 (y+1)=y+1:=wr (by omega) (by omega);rw[sC.l1_eq,hw,tJ (y+1) (by omega) (by omega)];simp(disch:=omega)only[ss];exact ih (y+1) (by omega) (by omega)
theorem kR1 (n:Int) (h1: -719162≤n) (h2:n≤2932896):∃y m d,iK1 n y m d∧lB.f n=some (y,m,d,0,())∧sC.f n=some (y,m,d,0,()):=by
 obtain⟨Y,y1,y2,y3,y4⟩:=iZ1 n h1 h2;have hs:=vT Y y1;obtain⟨M,m1,m2,m3,m4⟩:=jW1 Y (n-fst_ Y) (by omega) (by omega);have hc:=aM Y M m1 m2;have h5:=sE2 Y (n-fst_ Y) M y1 y2 (by omega) m2 m3 m4 (M-1).toNat 1 (by omega) (by omega);rw[zZ1,Int.sub_zero]at h5;refine⟨Y,M,n-fst_ Y-cum Y M+1,⟨sQ.2 ⟨y1,y2,by omega,by omega⟩,by omega⟩,?_,?_⟩
 ·have hz1:(n+719162)*400/146097+1≤9999:=by omega
  obtain⟨z,z1,z2,z3⟩:=vE2 n Y y1 y2 y3 y4 _ ((n+719162)*400/146097+1) rfl (by omega) hz1;have h4:=oD2 n Y y1 y3 y4 (z-Y).toNat z (by omega) z2;rw[lB.f_eq,dQ.f_eq];have e1:w6 (n - -719162)=n+719162:=by rw[wr (by omega) (by omega)];omega
  have e2:w6 ((n+719162)*400)=(n+719162)*400:=wr (by omega) (by omega);simp(disch:=omega)only[ss,e1,e2,tdn (show 0≤(n+719162)*400 by omega),ge_iff_le];rw[z3,h4];exact h5.1
 ·have hlow:fst_ (Y+1) ≤ -719162+366*Y:=by unfold fst_;omega
  have hv:=rC2 n Y y1 y2 y3 y4 (Y-((n+719162)/366+1)).toNat ((n+719162)/366+1) (by omega) (by omega);have e1:w6 (n - -719162)=n+719162:=by rw[wr (by omega) (by omega)];omega
  rw[sC.f_eq,cO.f_eq,tJ 1 (by omega) (by omega),tJ 10000 (by omega) (by omega),zA2,vW];simp(disch:=omega)only[ss,e1,tdn (show 0≤n+719162 by omega),ge_iff_le];rw[hv];exact h5.2
theorem tdm (t k:Int) (hk:0<k):Int.tdiv t k=(if t%k≠0∧t<0 then t/k+1 else t/k)∧Int.tmod t k=(if t%k≠0∧t<0 then t%k-k else t%k):=by
 by_cases h:0≤t
 ·rw[if_neg (by omega),if_neg (by omega)];exact⟨tdn h k,tmn h k⟩
 ·have e:t = -(-t):=by omega
  have h1:Int.tdiv t k = -((-t)/k):=by rw[e,Int.neg_tdiv,tdn (by omega),Int.neg_neg]
  have h2:Int.tmod t k = -((-t)%k):=by rw[e,Int.neg_tmod,tmn (by omega),Int.neg_neg]
  have h3:=Int.emod_add_mul_ediv t k;have h4:=Int.emod_add_mul_ediv (-t) k;have b1:=Int.emod_nonneg t (show k≠0 by omega);have b2:=Int.emod_lt_of_pos t hk;have b3:=Int.emod_nonneg (-t) (show k≠0 by omega);have b4:=Int.emod_lt_of_pos (-t) hk;rw[h1,h2];by_cases hz:t%k=0
  ·rw[if_neg (by omega),if_neg (by omega)];have hz2:(-t)%k=0:=by have:k∣t:=Int.dvd_of_emod_eq_zero hz;exact Int.emod_eq_zero_of_dvd (Int.dvd_neg.2 this)
   have:(-t)/k = -(t/k):=Int.neg_ediv_of_dvd (Int.dvd_of_emod_eq_zero hz);exact⟨by omega,by omega⟩
  ·rw[if_pos ⟨hz,by omega⟩,if_pos ⟨hz,by omega⟩];have hq:(-t)%k=k-t%k:=by
    have e1: -t=(k-t%k)+k*(-(t/k)-1):=by rw[Int.mul_sub,Int.mul_neg];omega
    rw[e1,Int.add_mul_emod_self_left,Int.emod_eq_of_lt (by omega) (by omega)]
   have hd:(-t)/k = -(t/k)-1:=by
    have:k*((-t)/k)=k*(-(t/k)-1):=by rw[Int.mul_sub,Int.mul_neg];omega
    exact Int.eq_of_mul_eq_mul_left (by omega) this
   exact⟨by omega,by omega⟩
theorem iR1 (t:Int) (h1: -9000000000000000000≤t) (h2:t≤9000000000000000000):bI.f t=some (t/86400,t%86400,())∧aK.f t=some (t/86400,t%86400,()):=by
 obtain⟨e1,e2⟩:=tdm t 86400 (by omega);rw[bI.f_eq,aK.f_eq,wF.f_eq,e1,e2];by_cases c:t%86400≠0∧t<0
 ·rw[if_pos c,if_pos c];have q1:t/86400+1-1=t/86400:=by omega
  have q2:t%86400-86400+86400=t%86400:=by omega
  simp(disch:=omega)only[ss,q1,q2];exact⟨trivial,trivial⟩
 ·rw[if_neg c,if_neg c];simp(disch:=omega)only[ss];exact⟨trivial,trivial⟩
theorem pE2 (t:Int):iL.f t=some (decide (-62135596800≤t∧t≤253402300799),())∧zG.f t=some (decide (-62135596800≤t∧t≤253402300799),()):=by
 rw[iL.f_eq,zG.f_eq];by_cases c: -62135596800≤t
 ·by_cases c2:t≤253402300799
  ·simp(disch:=omega)only[ss,ge_iff_le];exact⟨trivial,trivial⟩
  ·simp(disch:=omega)only[ss,ge_iff_le];exact⟨trivial,trivial⟩
 ·simp(disch:=omega)only[ss,ge_iff_le];exact⟨trivial,trivial⟩
def dgs :Nat→Nat→List UInt8
 | 0,_=>[]
 | w+1,n=>dgs w (n/10)++[UInt8.ofNat (48+n%10)]
theorem eL :∀(w n:Nat),(dgs w n).length=w
 | 0,_=>rfl
 | w+1,n=>by rw[dgs,oH2,eL w];rfl
theorem mI :∀(w n:Nat),digs (dgs w n)
 | 0,_=>fun c h=>by cases h
 | w+1,n=>by rw[dgs,xL];refine⟨mI w _,fun c h=>?_⟩;rw[xI2]at h;subst h;unfold dig;rw[of48 (by omega)];omega
theorem pO :∀(w n:Nat),n<10 ^ w→dval 0 (dgs w n)=n
 | 0,n,h=>by
  have:n=0:=by simpa using h
  subst this;rfl
 | w+1,n,h=>by rw[Nat.pow_succ]at h;rw[dgs,rH,pO w (n/10) (by omega)];have h8:=of48 (show n%10<10 by omega);generalize UInt8.ofNat (48+n%10)=c at h8;show 10*(n/10)+(c.toNat-48)=n;omega
theorem zJ1 :∀w:Nat,dgs w 0=List.replicate w 48
 | 0=>rfl
 | w+1=>by rw[dgs,Nat.zero_div,zJ1 w,List.replicate_succ'];rfl
theorem gE2 :∀(w n:Nat),n<10 ^ (w+1) → ∃z,z+(Lib.decDigits n).length=w+1∧List.replicate z 48++Lib.decDigits n=dgs (w+1) n:=by
 intro w
 induction w with
 | zero=>
  intro n h;have h:n<10:=by simpa using h
  have e:Lib.decDigits n=[UInt8.ofNat (48+n)]:=by rw[Lib.decDigits,dif_pos h]
  refine⟨0,by rw[e];rfl,?_⟩;rw[e,dgs,dgs,dL2 h];rfl
 | succ w ih=>
  intro n h;by_cases hn:n<10
  ·have e:Lib.decDigits n=[UInt8.ofNat (48+n)]:=by rw[Lib.decDigits,dif_pos hn]
   refine⟨w+1,by rw[e];rfl,?_⟩;rw[e,dgs,dL2 hn,Nat.div_eq_of_lt hn,zJ1]
  ·have e:Lib.decDigits n=Lib.decDigits (n/10)++[UInt8.ofNat (48+n%10)]:=by rw[Lib.decDigits,dif_neg hn]
   obtain⟨z,h1,h2⟩:=ih (n/10) (by rw[Nat.pow_succ]at h;omega);refine⟨z,by rw[e,oH2,rH2];omega,?_⟩;rw[e,dgs,←h2,dI2]
theorem nK1 :∀n:Nat,Lib.repeatL [48] n=List.replicate n 48
 | 0=>rfl
 | n+1=>by rw[Lib.repeatL,nK1 n,List.replicate_succ];rfl
theorem sdig (w n:Nat) (h0:0<w) (hw:w≤4) (h:n<10 ^ w):uD.f (n:Int) (w:Int)=some (mkS (dgs w n),()):=by
 have hp:10 ^ w≤10 ^ 4:=Nat.pow_le_pow_right (by decide) hw;have hp:10 ^ w≤10000:=hp;have hI:kD.f (n:Int)=some (mkS (Lib.decDigits n),()):=by rw[rJ n (by omega) (by omega),fG (by omega),oJ2]
 obtain⟨w,rfl⟩:∃v,w=v+1:=⟨w-1,by omega⟩
 obtain⟨z,h1,h2⟩:=gE2 w n h;rw[uD.f_eq,hI];have hw':w6 (((w+1:Nat):Int)-((Lib.decDigits n).length:Int))=(z:Int):=by rw[wr (by omega) (by omega)];omega
 have hm:mm true (z:Int) 0=(z:Int):=by simp only[mm,cond_true];rw[if_neg (by omega)]
 have hR:oH.f (⟨#[48]⟩:ByteArray) (z:Int)=some (mkS (List.replicate z 48),()):=by rw[oH.f_sem];show(bif decide (0≤(z:Int))then(bif decide ((z:Int)≤1000000)then(bif decide (0<ByteArray.size ⟨#[48]⟩)then(bif decide (ByteArray.size ⟨#[48]⟩≤1000000)then some ((⟨(Lib.repeatL [48] (Int.toNat (z:Int))).toArray⟩:ByteArray),())else none)else none)else none)else none)=_;rw[oJ2,nK1];have hs:ByteArray.size ⟨#[48]⟩=1:=rfl;simp(disch:=omega)only[ss,hs];rfl
 have hl:(List.replicate z (48:UInt8)).length=z:=List.length_replicate ..;simp(disch:=omega)only[ss,szS,hw',hm,hR,hl,xD,h2]
theorem tdig {n:Nat}:IntKind.u8.wrap (w6 (48+Int.tmod (n:Int) 10))=((UInt8.ofNat (48+n%10)).toNat:Int):=by rw[tmn (by omega),wr (by omega) (by omega),of48 (by omega),Go.IntWalk.u8_in _ ⟨by omega,by omega⟩];omega
theorem lB2 (w:Nat) (hw:w≤4):∀(k i n:Nat) (y:List UInt8),w-i=k→i≤w→n≤1000000→y.length=i→bC.l1 (n:Int) (w:Int) (i:Int) (I y)=some (mkS (dgs k n++y),()):=by
 have hlim:uC=17179869184:=rfl;intro k
 induction k with
 | zero=>
  intro i n y hk hi2 hn hy;rw[bC.l1_eq];simp(disch:=omega)only[ss,uA1];rfl
 | succ k ih=>
  intro i n y hk hi2 hn hy;have hIl:(I y).length=y.length:=by unfold I;rw[tH2]
  have e10:Int.tdiv (n:Int) 10=((n/10:Nat):Int):=by rw[tdn (by omega)];omega
  rw[bC.l1_eq,tdig,e10];have hc:[((UInt8.ofNat (48+n%10)).toNat:Int)]++I y=I (UInt8.ofNat (48+n%10)::y):=rfl;have hcl:[((UInt8.ofNat (48+n%10)).toNat:Int)].length=1:=rfl;simp(disch:=omega)only[ss,hIl,hcl,hlim,hc];have:=ih (i+1) (n/10) (UInt8.ofNat (48+n%10)::y) (by omega) (by omega) (by omega) (by rw[zH2,hy]);rw[hJ2,gJ2]at this;rw[this,dgs,dI2];rfl
theorem vdig (w n:Nat) (hw:w≤4) (hn:n≤1000000):bC.f (n:Int) (w:Int)=some (mkS (dgs w n),()):=by have:=lB2 w hw w 0 n [] (by omega) (by omega) hn rfl;rw[bI2,eI2]at this;rw[bC.f_eq];exact this
def zG1 (y m d h i s:Nat):List UInt8:=(dgs 4 y++(dgs 2 m++dgs 2 d))++84::(dgs 2 h++(dgs 2 i++dgs 2 s))
theorem wT1 (y m d h i s:Nat) (hy:y<10000) (hm:m<100) (hd:d<100) (hh:h<100) (hi2:i<100) (hs:s<100):iB.f (mkS (zG1 y m d h i s))=(xC.f (y:Int) (m:Int) (d:Int) (h:Int) (i:Int) (s:Int)).bind fun t3=>some (t3.1,t3.2.1,()):=by
 unfold zG1;obtain⟨a,ha⟩:∃a,a=dgs 4 y++(dgs 2 m++dgs 2 d):=⟨_,rfl⟩
 obtain⟨b,hb⟩:∃b,b=dgs 2 h++(dgs 2 i++dgs 2 s):=⟨_,rfl⟩
 have la:a.length=8:=by rw[ha];simp[eL]
 have lb:b.length=6:=by rw[hb];simp[eL]
 have da:digs a:=by rw[ha,xL,xL];exact⟨mI _ _,mI _ _,mI _ _⟩
 have db:digs b:=by rw[hb,xL,xL];exact⟨mI _ _,mI _ _,mI _ _⟩
 have va:dval 0 a=y*10000+m*100+d:=by rw[ha,rH,rH,xI (dgs 2 d),xI (dgs 2 m),eL,eL,pO 4 y hy,pO 2 m hm,pO 2 d hd];omega
 have vb:dval 0 b=h*10000+i*100+s:=by rw[hb,rH,rH,xI (dgs 2 s),xI (dgs 2 i),eL,eL,pO 2 h (by omega),pO 2 i (by omega),pO 2 s (by omega)];omega
 rw[←ha,←hb];have hl:(a++84::b).length=15:=by rw[oH2,zH2];omega
 have h8:bt (mkS (a++84::b)) 8=84:=by
  have:=wH (mkS (a++84::b)) 8;have e:(a++84::b).getD 8 0=84:=by rw[qH2,lI2 (by omega),la];rfl
  have t:bt (mkS (a++84::b)) 8=(((a++84::b).getD 8 0).toNat:Int):=this;rw[e]at t;exact t
 have x1:(mkS (a++84::b)).extract 0 8=mkS a:=by rw[ex_S,mI2,←la];simp
 have x2:(mkS (a++84::b)).extract 9 15=mkS b:=by
  have:(a++84::b).drop 9=b:=by rw[show(9:Nat)=a.length+1 by omega,sK2];simp
  rw[ex_S,this];rw[yJ2 (by omega)]
 have nA:=(snum a (by omega)).1 da;have nB:=(snum b (by omega)).1 db;rw[va]at nA;rw[vb]at nB;have t8:(8:Int).toNat=8:=rfl;have t9:(9:Int).toNat=9:=rfl;rw[iB.f_eq];simp(disch:=omega)only[ss,szS,hl,h8,iB.l1_eq,t8,t9,x1,x2,nA,nB,iB.l2_eq]
 rw[tdn (show(0:Int)≤((y*10000+m*100+d:Nat):Int) by omega),tdn (show(0:Int)≤((y*10000+m*100+d:Nat):Int) by omega),tmn (show(0:Int)≤((y*10000+m*100+d:Nat):Int) by omega),
  tdn (show(0:Int)≤((h*10000+i*100+s:Nat):Int) by omega),tdn (show(0:Int)≤((h*10000+i*100+s:Nat):Int) by omega),tmn (show(0:Int)≤((h*10000+i*100+s:Nat):Int) by omega)]
 have w1:w6 (((y*10000+m*100+d:Nat):Int)/10000)=(y:Int):=by rw[wr (by omega) (by omega)];omega
 have w2:w6 (((y*10000+m*100+d:Nat):Int)/100)=((y*100+m:Nat):Int):=by rw[wr (by omega) (by omega)];omega
 have w3:w6 (((h*10000+i*100+s:Nat):Int)/10000)=(h:Int):=by rw[wr (by omega) (by omega)];omega
 have w4:w6 (((h*10000+i*100+s:Nat):Int)/100)=((h*100+i:Nat):Int):=by rw[wr (by omega) (by omega)];omega
 rw[w1,w2,w3,w4,tmn (show(0:Int)≤((y*100+m:Nat):Int) by omega),tmn (show(0:Int)≤((h*100+i:Nat):Int) by omega)];rw[show((y*100+m:Nat):Int)%100=(m:Int) by omega,show((y*10000+m*100+d:Nat):Int)%100=(d:Int) by omega,show((h*100+i:Nat):Int)%100=(i:Int) by omega,show((h*10000+i*100+s:Nat):Int)%100=(s:Int) by omega]
theorem tH (y m d h i s n:Int) (hd:iK1 n y m d) (h1:0≤h∧h≤23) (h2:0≤i∧i≤59) (h3:0≤s∧s≤59):xC.f y m d h i s=some (n*86400+3600*h+60*i+s,0,()):=by have hb:=zO1 hd;rw[xC.f_eq,(qD1 y m d).1,if_pos hd.1,hd.2];simp(disch:=omega)only[ss,gt_iff_lt,xC.l1_eq]
theorem kE2 {y m d:Int} (h:nL y m d=true):d≤31:=by have:=sQ.1 h;have:=qO y m;omega
theorem jE1 (t:Int) (h1: -62135596800≤t) (h2:t≤253402300799):∃s:List UInt8,s.length=15∧(∀c∈s,c=84∨dig c)∧kH.f t=some (mkS s,0,())∧kG.f t=some (mkS s,0,())∧iB.f (mkS s)=some (t,0,()):=by
 obtain⟨y,m,d,hd,e1,e2⟩:=kR1 (t/86400) (by omega) (by omega);obtain⟨hb1,hb2,hb3,hb4,_,_⟩:=zO1 hd;obtain⟨v1,v2,v3,v4⟩:=sQ.1 hd.1;have v5:=kE2 hd.1;obtain⟨yn,rfl⟩:=wI2 (show 0≤y by omega);obtain⟨mn,rfl⟩:=wI2 (show 0≤m by omega);obtain⟨dn',rfl⟩:=wI2 (show 0≤d by omega);obtain⟨sn,hsn⟩:=wI2 (show 0≤t%86400 by omega);have hsl:sn<86400:=by omega
 obtain⟨g1,g2⟩:=iR1 t (by omega) (by omega);rw[hsn]at g1 g2;have w1:w6 (Int.tdiv (sn:Int) 3600)=((sn/3600:Nat):Int):=by rw[tdn (by omega),wr (by omega) (by omega)];omega
 have w2:Int.tmod (w6 (Int.tdiv (sn:Int) 60)) 60=((sn/60%60:Nat):Int):=by rw[tdn (by omega),wr (by omega) (by omega),tmn (by omega)];omega
 have w3:Int.tmod (sn:Int) 60=((sn%60:Nat):Int):=by rw[tmn (by omega)];omega
 have q4:(4:Int)=((4:Nat):Int):=rfl;have q2:(2:Int)=((2:Nat):Int):=rfl;have s1:uD.f (yn:Int) 4=some (mkS (dgs 4 yn),()):=sdig 4 yn (by omega) (by omega) (by omega);have s2:uD.f (mn:Int) 2=some (mkS (dgs 2 mn),()):=sdig 2 mn (by omega) (by omega) (by omega);have s3:uD.f (dn':Int) 2=some (mkS (dgs 2 dn'),()):=sdig 2 dn' (by omega) (by omega) (by omega);have s4:uD.f ((sn/3600:Nat):Int) 2=some (mkS (dgs 2 (sn/3600)),()):=sdig 2 _ (by omega) (by omega) (by omega);have s5:uD.f ((sn/60%60:Nat):Int) 2=some (mkS (dgs 2 (sn/60%60)),()):=sdig 2 _ (by omega) (by omega) (by omega);have s6:uD.f ((sn%60:Nat):Int) 2=some (mkS (dgs 2 (sn%60)),()):=sdig 2 _ (by omega) (by omega) (by omega);have u1:bC.f (yn:Int) 4=some (mkS (dgs 4 yn),()):=vdig 4 yn (by omega) (by omega);have u2:bC.f (mn:Int) 2=some (mkS (dgs 2 mn),()):=vdig 2 mn (by omega) (by omega);have u3:bC.f (dn':Int) 2=some (mkS (dgs 2 dn'),()):=vdig 2 dn' (by omega) (by omega);have u4:bC.f ((sn/3600:Nat):Int) 2=some (mkS (dgs 2 (sn/3600)),()):=vdig 2 _ (by omega) (by omega);have u5:bC.f ((sn/60%60:Nat):Int) 2=some (mkS (dgs 2 (sn/60%60)),()):=vdig 2 _ (by omega) (by omega);have u6:bC.f ((sn%60:Nat):Int) 2=some (mkS (dgs 2 (sn%60)),()):=vdig 2 _ (by omega) (by omega);have hT:(⟨#[84]⟩:ByteArray)=mkS [84]:=rfl;have ha:dgs 4 yn++dgs 2 mn++dgs 2 dn'++[84]++dgs 2 (sn/3600)++dgs 2 (sn/60%60)++dgs 2 (sn%60)=zG1 yn mn dn' (sn/3600) (sn/60%60) (sn%60):=by unfold zG1;simp
 refine⟨zG1 yn mn dn' (sn/3600) (sn/60%60) (sn%60),by unfold zG1;simp[eL],?_,?_,?_,?_⟩
 ·intro c hc;unfold zG1 at hc;simp only[kI2,vH2]at hc;rcases hc with(hc | hc | hc) | hc | hc | hc | hc
  ·exact .inr (mI _ _ c hc)
  ·exact .inr (mI _ _ c hc)
  ·exact .inr (mI _ _ c hc)
  ·exact .inl hc
  ·exact .inr (mI _ _ c hc)
  ·exact .inr (mI _ _ c hc)
  ·exact .inr (mI _ _ c hc)
 ·rw[kH.f_eq,g1];simp(disch:=omega)only[ss,e1,s1,s2,s3,hT,w1,w2,w3,s4,s5,s6,szS,xD,oH2,rH2,eL,ha]
 ·have hM:zG.f t=some (true,()):=by rw[(pE2 t).2,dp ⟨h1,h2⟩]
  rw[kG.f_eq,hM];simp(disch:=omega)only[ss,g2,e2,u1,u2,u3,hT,w1,w2,w3,u4,u5,u6,szS,xD,oH2,rH2,eL,ha]
 ·rw[wT1 yn mn dn' _ _ _ (by omega) (by omega) (by omega) (by omega) (by omega) (by omega),tH _ _ _ _ _ _ (t/86400) hd (by omega) (by omega) (by omega)];simp only[pH2]
  congr 2
  omega
def opt (b:Bool) (name v:List UInt8):List (List UInt8):=bif b then [name++61::v]else []
def tl :List (List UInt8)→List UInt8
 | []=>[]
 | a::l=>59::(a++tl l)
theorem xT1 :∀(l m:List (List UInt8)),tl (l++m)=tl l++tl m
 | [],m=>rfl
 | a::l,m=>by show 59::(a++tl (l++m))=(59::(a++tl l))++tl m;rw[xT1 l m];simp
theorem iC2 :∀(a:List UInt8) (l:List (List UInt8)),jn 59 (a::l)=a++tl l
 | a,[]=>by simp[jn,tl]
 | a,b::l=>by show a++59::jn 59 (b::l)=_;rw[iC2 b l];rfl
theorem tK (b:Bool) (name v:List UInt8):(tl (opt b name v)).length≤name.length+v.length+2:=by
 cases b with
 | false=>simp[opt,tl]
 | true=>
  simp[opt,tl];omega
theorem jY (name v s:List UInt8) (b:Bool) (hn:name.length≤20) (hv:v.length≤3000) (hs:s.length≤100000):iF.f (mkS name) (mkS v) b (mkS s,())=some ((mkS (s++tl (opt b name v)),()),()):=by
 rw[iF.f_eq]
 cases b with
 | false=>
  simp only[cond_false];simp[opt,tl]
 | true=>
  have h59:(⟨#[59]⟩:ByteArray)=mkS [59]:=rfl;have h61:(⟨#[61]⟩:ByteArray)=mkS [61]:=rfl;simp(disch:=omega)only[ss,h59,h61,xD,szS,oH2,rH2];have:s++([59]++name++[61]++v)=s++tl (opt true name v):=by simp[opt,tl]
  rw[this]
theorem wJ1 (c:UInt8):∀xs:List (List UInt8),Lib.join xs [c]=jn c xs
 | []=>rfl
 | [a]=>by simp[Lib.join,List.intercalate,jn]
 | a::b::l=>by have ih:=wJ1 c (b::l);unfold Lib.join List.intercalate at ih ⊢;show _=a++c::jn c (b::l);rw[←ih];simp[List.intersperse]
theorem fQ1 (xs:List (List UInt8)) (h:xs.length≤1000) (hl:(jn 44 xs).length≤1000000):lG.f (xs.map mkS) ⟨#[44]⟩=some (mkS (jn 44 xs),()):=by
 have hlim:uC=17179869184:=rfl;have e:dT (xs.map mkS) ⟨#[44]⟩=jn 44 xs:=by
  unfold dT;rw[List.map_map]
  have:(xs.map ((fun x:ByteArray=>x.data.toList)∘mkS))=xs:=by have:((fun x:ByteArray=>x.data.toList)∘mkS)=id:=rfl;rw[this,List.map_id]
  rw[this];exact wJ1 44 xs
 rw[lG.f_sem];show yA2 (xs.map mkS) ⟨#[44]⟩=_;unfold yA2;rw[e];simp(disch:=omega)only[ss,tH2];rfl
theorem zY1 :∀(k u:Nat),u<10 ^ (k+1)→(Lib.decDigits u).length≤k+1:=by
 intro k
 induction k with
 | zero=>intro u h;rw[sL1,Lib.nDigits_small (by simpa using h)];omega
 | succ k ih=>
  intro u h;by_cases hu:u<10
  ·rw[sL1,Lib.nDigits_small hu];omega
  ·have:=ih (u/10) (by rw[Nat.pow_succ]at h;omega);rw[sL1]at this ⊢;rw[Lib.nDigits_big hu];omega
theorem kM (n:Int) (h0: -999≤n) (h1:n≤9999):(Lib.itoa n).length≤4:=by
 by_cases hn:n<0
 ·rw[tG hn,zH2];have:=zY1 2 n.natAbs (by omega);omega
 ·rw[fG hn];exact zY1 3 n.toNat (by omega)
theorem yD1 (k:Nat):∀l:List (List UInt8),(∀s∈l,s.length≤k)→tot l≤k*l.length
 | [],_=>uH2 _
 | a::l,h=>by
  have h1:=h a (by simp);have h2:=yD1 k l fun s hs=>h s (xH2 _ hs)
  simp only[tot,zH2];rw[Nat.mul_add];omega
def small (l:List Int):Prop:=∀n∈l,-366≤n∧n≤366
theorem uI (l:List Int) (h:l.length≤60) (hb:small l):(jn 44 (l.map Lib.itoa)).length≤300:=by
 have h1:=cX1 44 (l.map Lib.itoa)
 have h2:=yD1 4 (l.map Lib.itoa) fun s hs=>by obtain⟨n,hn,e⟩:=pI2.1 hs;rw[←e];have:=hb n hn;exact kM n (by omega) (by omega)
 rw[tH2]at h1 h2;omega
theorem tB1 (l:List Int) (h:l.length≤60) (hb:small l):lE.f l=some (mkS (jn 44 (l.map Lib.itoa)),()):=by
 have hlim:uC=17179869184:=rfl;have hlen:=uI l h hb;have hJ:=fQ1 (l.map Lib.itoa) (by rw[tH2];omega) (by omega);have key:∀(k i:Nat),l.length-i=k→i≤l.length→lE.l1 l l.length i (((l.take i).map Lib.itoa).map mkS)=some (mkS (jn 44 (l.map Lib.itoa)),()):=by
  intro k
  induction k with
  | zero=>
   intro i hk hil;have e:i=l.length:=by omega
   subst e;rw[lE.l1_eq,uJ2,hJ];simp(disch:=omega)only[ss]
  | succ k ih=>
   intro i hk hil;have hlt:i<l.length:=by omega
   have hn:=hb _ (iD 0 hlt);have hI:=rJ (l.getD i 0) (by omega) (by omega);have:=ih (i+1) (by omega) (by omega);rw[tE 0 hlt,fI2,fI2]at this;have hl1:(((l.take i).map Lib.itoa).map mkS).length=i:=by simp;omega
   rw[lE.l1_eq];simp(disch:=omega)only[ss,hI,hl1,rH2,hlim];exact this
 have:=key _ 0 rfl (uH2 _);rw[eI2]at this;rw[lE.f_eq];exact this
theorem lS (name:List UInt8) (l:List Int) (s:List UInt8) (hn:name.length≤20) (h:l.length≤60) (hb:small l) (hs:s.length≤100000):
  vE.f (mkS name) l (((mkS s,()),()),())=some ((((mkS (s++tl (opt (decide ((l.length:Int)>0)) name (jn 44 (l.map Lib.itoa)))),()),()),()),()):=by
 have hl:=uI l h hb;rw[vE.f_eq,tB1 l h hb];simp only[pH2];rw[jY name _ s _ hn (by omega) hs];rfl
def dt (d:Dy):List UInt8:=(if d.1=0 then []else Lib.itoa d.1)++wd.getD d.2.1.toNat []
def xW (l:List Dy):Prop:=∀d∈l,-53≤d.1∧d.1≤53∧0≤d.2.1∧d.2.1≤6
theorem fw7 :fw.length=7:=rfl
theorem wd7 :wd.length=7:=rfl
theorem dJ1 {α:Type} {l:List α} {z:α} {i:Nat} (h:¬i<l.length):l.getD i z=z:=by rw[qH2,sJ2 (by omega)];rfl
theorem iY1 (i:Nat):(fw.getD i []).length≤8:=by
 by_cases h:i<fw.length
 ·exact(show ∀s∈fw,s.length≤8 by decide) _ (iD [] h)
 ·rw[dJ1 h];exact uH2 _
theorem rF1 (i:Nat):(wd.getD i []).length≤2:=by
 by_cases h:i<wd.length
 ·exact(show ∀s∈wd,s.length≤2 by decide) _ (iD [] h)
 ·rw[dJ1 h];exact uH2 _
theorem tR1 (d:Dy) (h: -53≤d.1∧d.1≤53):(dt d).length≤6:=by
 have h1:=rF1 d.2.1.toNat;have h2:=kM d.1 (by omega) (by omega);unfold dt;rw[oH2];split
 ·rw[hI2];omega
 ·omega
theorem gB1 (l:List Dy) (h:l.length≤60) (hb:xW l):(jn 44 (l.map dt)).length≤420:=by
 have h1:=cX1 44 (l.map dt)
 have h2:=yD1 6 (l.map dt) fun s hs=>by obtain⟨n,hn,e⟩:=pI2.1 hs;rw[←e];have:=hb n hn;exact tR1 n ⟨this.1,this.2.1⟩
 rw[tH2]at h1 h2;omega
theorem lM1 (l:List Dy) (h:l.length≤60) (hb:xW l):kE.f l=some (mkS (jn 44 (l.map dt)),()):=by
 have hlim:uC=17179869184:=rfl;have hlen:=gB1 l h hb;have hJ:=fQ1 (l.map dt) (by rw[tH2];omega) (by omega);have key:∀(k i:Nat),l.length-i=k→i≤l.length→kE.l1 l l.length i (((l.take i).map dt).map mkS)=some (mkS (jn 44 (l.map dt)),()):=by
  intro k
  induction k with
  | zero=>
   intro i hk hil;have e:i=l.length:=by omega
   subst e;rw[kE.l1_eq,uJ2,hJ];simp(disch:=omega)only[ss]
  | succ k ih=>
   intro i hk hil;have hlt:i<l.length:=by omega
   have hn:=hb _ (iD ((0,0,()):Dy) hlt);have:=ih (i+1) (by omega) (by omega);rw[tE ((0,0,()):Dy) hlt,fI2,fI2]at this;have hl1:(((l.take i).map dt).map mkS).length=i:=by simp;omega
   have hs1:[dt (l.getD i ((0,0,()):Dy))].map mkS=[mkS (dt (l.getD i ((0,0,()):Dy)))]:=rfl;have hs2:[l.getD i ((0,0,()):Dy)].map dt=[dt (l.getD i ((0,0,()):Dy))]:=rfl;rw[hs2,hs1]at this;have hdl:=tR1 (l.getD i ((0,0,()):Dy)) ⟨hn.1,hn.2.1⟩;rw[kE.l1_eq];generalize hd:l.getD i ((0,0,()):Dy)=d at hn this hdl;have hd':l.getD i ((0,0,()):Int×Int×Unit)=d:=hd;have hI:=rJ d.1 (by omega) (by omega);have hgw:=gm wd d.2.1.toNat (by rw[wd7];omega);have hwl:((wd.map mkS).length:Int)=7:=rfl;have hl4:=kM d.1 (by omega) (by omega);have hl2:=rF1 d.2.1.toNat;by_cases c:d.1=0
   ·have e:dt d=wd.getD d.2.1.toNat []:=by unfold dt;rw[if_pos c];rfl
    rw[e]at this;simp(disch:=omega)only[ss,hd',nI,hwl,hgw,kE.l2_eq,hl1,rH2,hlim];exact this
   ·have e:dt d=Lib.itoa d.1++wd.getD d.2.1.toNat []:=by unfold dt;rw[if_neg c]
    rw[e]at this;simp(disch:=omega)only[ss,hd',nI,hwl,hgw,hI,szS,xD,kE.l2_eq,hl1,rH2,hlim];exact this
 have:=key _ 0 rfl (uH2 _);rw[eI2]at this;rw[kE.f_eq];exact this
theorem sK {l:List Int} {lo hi:Int} {z:Bool} (h:wi l lo hi z) (h1: -366≤lo) (h2:hi≤366):l.length≤60∧small l:=by refine⟨h.2,fun n hn=>?_⟩;obtain⟨j,hj,e⟩:=zK2 hn;have h3:=(h.1 j hj).1;unfold okI at h3;rw[uH 0 hj,e]at h3;omega
theorem vR1 {l:List Dy} (h:dwi l):l.length≤60∧xW l:=by refine⟨h.2,fun n hn=>?_⟩;obtain⟨j,hj,e⟩:=zK2 hn;have h3:=h.1 j hj;unfold okD gD at h3;rw[uH _ hj,e]at h3;exact⟨h3.1,h3.2.1,h3.2.2.1,h3.2.2.2.1⟩
open Classical in
/-- A moment's text. -/
noncomputable def utx (t:Int):List UInt8:=if h: -62135596800≤t∧t≤253402300799 then Classical.choose (jE1 t h.1 h.2)else []
theorem yA1 (t:Int) (h: -62135596800≤t∧t≤253402300799):(utx t).length=15∧(∀c∈utx t,c=84∨dig c)∧kH.f t=some (mkS (utx t),0,())∧kG.f t=some (mkS (utx t),0,())∧iB.f (mkS (utx t))=some (t,0,()):=by unfold utx;rw[dif_pos h];exact Classical.choose_spec (jE1 t h.1 h.2)
theorem zN (t:Int) (h: -62135596800≤t∧t≤253402300799):(utx t).length≤15∧kH.f t=some (mkS (utx t),0,())∧iB.f (mkS (utx t))=some (t,0,()):=by obtain⟨h1,_,h2,_,h3⟩:=yA1 t h;exact⟨by omega,h2,h3⟩
theorem oY1 (f iv ct un wk:Int) (en:Bool) (mo we yd md:List Int) (dy:List Dy) (ho mi se po:List Int) (hp:mayP f iv ct un wk en mo we yd md dy ho mi se po):
  (1≤f∧f≤7∧1≤iv∧iv≤1000)∧(0≤ct∧ct≤4096∧0≤wk∧wk≤6)∧(-62135596800≤un∧un≤253402300799)∧(mo.length≤60∧small mo)∧(we.length≤60∧small we)∧(yd.length≤60∧small yd)∧(md.length≤60∧small md)∧(dy.length≤60∧xW dy)∧(ho.length≤60∧small ho)∧(mi.length≤60∧small mi)∧(se.length≤60∧small se)∧(po.length≤60∧small po):=by
 obtain⟨⟨h1,h2,h3⟩,⟨l1,l2,l3,l4,l5,l6,l7,l8,l9,_⟩,_⟩:=hp;refine⟨⟨h1.1,h1.2.1,h1.2.2.1,h1.2.2.2.1⟩,⟨h1.2.2.2.2.1,h1.2.2.2.2.2.1,h1.2.2.2.2.2.2.1,h1.2.2.2.2.2.2.2⟩,?_,sK l1 (by omega) (by omega),sK l2 (by omega) (by omega),sK l3 (by omega) (by omega),sK l4 (by omega) (by omega),vR1 l9,sK l5 (by omega) (by omega),sK l6 (by omega) (by omega),sK l7 (by omega) (by omega),sK l8 (by omega) (by omega)⟩
 cases en with
 | true=>exact(h2 rfl).1
 | false=>rw[h3 rfl];omega
section
variable (f iv ct un wk : Int) (en : Bool) (mo we yd md : List Int) (dy : List Dy) (ho mi se po : List Int)
noncomputable def rest :List (List UInt8):=
 opt (!decide (iv=1)) [73,78,84,69,82,86,65,76] (Lib.itoa iv)++(opt (!decide (ct=0)) [67,79,85,78,84] (Lib.itoa ct)++(opt (en) [85,78,84,73,76] (utx un)++(opt (decide ((mo.length:Int)>0)) [66,89,77,79,78,84,72] (jn 44 (mo.map Lib.itoa))++(opt (decide ((we.length:Int)>0)) [66,89,87,69,69,75,78,79] (jn 44 (we.map Lib.itoa))++(opt (decide ((yd.length:Int)>0)) [66,89,89,69,65,82,68,65,89] (jn 44 (yd.map Lib.itoa))++(opt (decide ((md.length:Int)>0)) [66,89,77,79,78,84,72,68,65,89] (jn 44 (md.map Lib.itoa))++(opt (decide ((dy.length:Int)>0)) [66,89,68,65,89] (jn 44 (dy.map dt))++(opt (decide ((ho.length:Int)>0)) [66,89,72,79,85,82] (jn 44 (ho.map Lib.itoa))++(opt (decide ((mi.length:Int)>0)) [66,89,77,73,78,85,84,69] (jn 44 (mi.map Lib.itoa))++(opt (decide ((se.length:Int)>0)) [66,89,83,69,67,79,78,68] (jn 44 (se.map Lib.itoa))++(opt (decide ((po.length:Int)>0)) [66,89,83,69,84,80,79,83] (jn 44 (po.map Lib.itoa))++(opt (!decide (wk=0)) [87,75,83,84] (wd.getD wk.toNat [])))))))))))))
noncomputable def lE1 :List (List UInt8):=([70,82,69,81]++61::fw.getD (f-1).toNat [])::rest iv ct un wk en mo we yd md dy ho mi se po
theorem gM1 (hM:wA.f (f,iv,ct,un,wk,en,mo,we,yd,md,dy,ho,mi,se,po,())=some (true,())) (hp:mayP f iv ct un wk en mo we yd md dy ho mi se po):uJ.f (f,iv,ct,un,wk,en,mo,we,yd,md,dy,ho,mi,se,po,())=some (mkS (jn 59 (lE1 f iv ct un wk en mo we yd md dy ho mi se po)),0,())∧(jn 59 (lE1 f iv ct un wk en mo we yd md dy ho mi se po)).length≤4096:=by
 obtain⟨b1,b2,b3,bmo,bwe,byd,bmd,bdy,bho,bmi,bse,bpo⟩:=oY1 f iv ct un wk en mo we yd md dy ho mi se po hp;have hwf:(fw.getD (f-1).toNat []).length≤8:=iY1 _;have hwk:(wd.getD wk.toNat []).length≤2:=rF1 _;obtain⟨u1,u2,u3⟩:=zN un b3;have li:=kM iv (by omega) (by omega);have lc:=kM ct (by omega) (by omega);obtain⟨s0,e0⟩:∃s,s=[70,82,69,81]++61::fw.getD (f-1).toNat []:=⟨_,rfl⟩
 have n0:([70,82,69,81]:List UInt8).length=4:=rfl;have l0:s0.length≤13:=by rw[e0];simp only[oH2,zH2,hI2];omega
 have p1:=jY [73,78,84,69,82,86,65,76] (Lib.itoa iv) s0 (!decide (iv=1)) (by decide) (by omega) (by omega);have q1:=tK (!decide (iv=1)) [73,78,84,69,82,86,65,76] (Lib.itoa iv);obtain⟨s1,e1⟩:∃s,s=s0++tl (opt (!decide (iv=1)) [73,78,84,69,82,86,65,76] (Lib.itoa iv)):=⟨_,rfl⟩
 rw[←e1]at p1;have n1:([73,78,84,69,82,86,65,76]:List UInt8).length=8:=rfl;have l1:s1.length≤s0.length+14:=by rw[e1,oH2];omega
 have p2:=jY [67,79,85,78,84] (Lib.itoa ct) s1 (!decide (ct=0)) (by decide) (by omega) (by omega);have q2:=tK (!decide (ct=0)) [67,79,85,78,84] (Lib.itoa ct);obtain⟨s2,e2⟩:∃s,s=s1++tl (opt (!decide (ct=0)) [67,79,85,78,84] (Lib.itoa ct)):=⟨_,rfl⟩
 rw[←e2]at p2;have n2:([67,79,85,78,84]:List UInt8).length=5:=rfl;have l2:s2.length≤s1.length+11:=by rw[e2,oH2];omega
 have p3:=jY [85,78,84,73,76] (utx un) s2 (en) (by decide) (by omega) (by omega);have q3:=tK (en) [85,78,84,73,76] (utx un);obtain⟨s3,e3⟩:∃s,s=s2++tl (opt (en) [85,78,84,73,76] (utx un)):=⟨_,rfl⟩
 rw[←e3]at p3;have n3:([85,78,84,73,76]:List UInt8).length=5:=rfl;have l3:s3.length≤s2.length+22:=by rw[e3,oH2];omega
 have lmo:=uI mo bmo.1 bmo.2;have p4:=lS [66,89,77,79,78,84,72] mo s3 (by decide) bmo.1 bmo.2 (by omega);have q4:=tK (decide ((mo.length:Int)>0)) [66,89,77,79,78,84,72] (jn 44 (mo.map Lib.itoa));obtain⟨s4,e4⟩:∃s,s=s3++tl (opt (decide ((mo.length:Int)>0)) [66,89,77,79,78,84,72] (jn 44 (mo.map Lib.itoa))):=⟨_,rfl⟩
 rw[←e4]at p4;have n4:([66,89,77,79,78,84,72]:List UInt8).length=7:=rfl;have l4:s4.length≤s3.length+309:=by rw[e4,oH2];omega
 have lwe:=uI we bwe.1 bwe.2;have p5:=lS [66,89,87,69,69,75,78,79] we s4 (by decide) bwe.1 bwe.2 (by omega);have q5:=tK (decide ((we.length:Int)>0)) [66,89,87,69,69,75,78,79] (jn 44 (we.map Lib.itoa));obtain⟨s5,e5⟩:∃s,s=s4++tl (opt (decide ((we.length:Int)>0)) [66,89,87,69,69,75,78,79] (jn 44 (we.map Lib.itoa))):=⟨_,rfl⟩
 rw[←e5]at p5;have n5:([66,89,87,69,69,75,78,79]:List UInt8).length=8:=rfl;have l5:s5.length≤s4.length+310:=by rw[e5,oH2];omega
 have lyd:=uI yd byd.1 byd.2;have p6:=lS [66,89,89,69,65,82,68,65,89] yd s5 (by decide) byd.1 byd.2 (by omega);have q6:=tK (decide ((yd.length:Int)>0)) [66,89,89,69,65,82,68,65,89] (jn 44 (yd.map Lib.itoa));obtain⟨s6,e6⟩:∃s,s=s5++tl (opt (decide ((yd.length:Int)>0)) [66,89,89,69,65,82,68,65,89] (jn 44 (yd.map Lib.itoa))):=⟨_,rfl⟩
 rw[←e6]at p6;have n6:([66,89,89,69,65,82,68,65,89]:List UInt8).length=9:=rfl;have l6:s6.length≤s5.length+311:=by rw[e6,oH2];omega
 have lmd:=uI md bmd.1 bmd.2;have p7:=lS [66,89,77,79,78,84,72,68,65,89] md s6 (by decide) bmd.1 bmd.2 (by omega);have q7:=tK (decide ((md.length:Int)>0)) [66,89,77,79,78,84,72,68,65,89] (jn 44 (md.map Lib.itoa));obtain⟨s7,e7⟩:∃s,s=s6++tl (opt (decide ((md.length:Int)>0)) [66,89,77,79,78,84,72,68,65,89] (jn 44 (md.map Lib.itoa))):=⟨_,rfl⟩
 rw[←e7]at p7;have n7:([66,89,77,79,78,84,72,68,65,89]:List UInt8).length=10:=rfl;have l7:s7.length≤s6.length+312:=by rw[e7,oH2];omega
 have ldy:=gB1 dy bdy.1 bdy.2;have p8:=jY [66,89,68,65,89] (jn 44 (dy.map dt)) s7 (decide ((dy.length:Int)>0)) (by decide) (by omega) (by omega);have q8:=tK (decide ((dy.length:Int)>0)) [66,89,68,65,89] (jn 44 (dy.map dt));obtain⟨s8,e8⟩:∃s,s=s7++tl (opt (decide ((dy.length:Int)>0)) [66,89,68,65,89] (jn 44 (dy.map dt))):=⟨_,rfl⟩
 rw[←e8]at p8;have n8:([66,89,68,65,89]:List UInt8).length=5:=rfl;have l8:s8.length≤s7.length+427:=by rw[e8,oH2];omega
 have lho:=uI ho bho.1 bho.2;have p9:=lS [66,89,72,79,85,82] ho s8 (by decide) bho.1 bho.2 (by omega);have q9:=tK (decide ((ho.length:Int)>0)) [66,89,72,79,85,82] (jn 44 (ho.map Lib.itoa));obtain⟨s9,e9⟩:∃s,s=s8++tl (opt (decide ((ho.length:Int)>0)) [66,89,72,79,85,82] (jn 44 (ho.map Lib.itoa))):=⟨_,rfl⟩
 rw[←e9]at p9;have n9:([66,89,72,79,85,82]:List UInt8).length=6:=rfl;have l9:s9.length≤s8.length+308:=by rw[e9,oH2];omega
 have lmi:=uI mi bmi.1 bmi.2;have p10:=lS [66,89,77,73,78,85,84,69] mi s9 (by decide) bmi.1 bmi.2 (by omega);have q10:=tK (decide ((mi.length:Int)>0)) [66,89,77,73,78,85,84,69] (jn 44 (mi.map Lib.itoa));obtain⟨s10,e10⟩:∃s,s=s9++tl (opt (decide ((mi.length:Int)>0)) [66,89,77,73,78,85,84,69] (jn 44 (mi.map Lib.itoa))):=⟨_,rfl⟩
 rw[←e10]at p10;have n10:([66,89,77,73,78,85,84,69]:List UInt8).length=8:=rfl;have l10:s10.length≤s9.length+310:=by rw[e10,oH2];omega
 have lse:=uI se bse.1 bse.2;have p11:=lS [66,89,83,69,67,79,78,68] se s10 (by decide) bse.1 bse.2 (by omega);have q11:=tK (decide ((se.length:Int)>0)) [66,89,83,69,67,79,78,68] (jn 44 (se.map Lib.itoa));obtain⟨s11,e11⟩:∃s,s=s10++tl (opt (decide ((se.length:Int)>0)) [66,89,83,69,67,79,78,68] (jn 44 (se.map Lib.itoa))):=⟨_,rfl⟩
 rw[←e11]at p11;have n11:([66,89,83,69,67,79,78,68]:List UInt8).length=8:=rfl;have l11:s11.length≤s10.length+310:=by rw[e11,oH2];omega
 have lpo:=uI po bpo.1 bpo.2;have p12:=lS [66,89,83,69,84,80,79,83] po s11 (by decide) bpo.1 bpo.2 (by omega);have q12:=tK (decide ((po.length:Int)>0)) [66,89,83,69,84,80,79,83] (jn 44 (po.map Lib.itoa));obtain⟨s12,e12⟩:∃s,s=s11++tl (opt (decide ((po.length:Int)>0)) [66,89,83,69,84,80,79,83] (jn 44 (po.map Lib.itoa))):=⟨_,rfl⟩
 rw[←e12]at p12;have n12:([66,89,83,69,84,80,79,83]:List UInt8).length=8:=rfl;have l12:s12.length≤s11.length+310:=by rw[e12,oH2];omega
 have p13:=jY [87,75,83,84] (wd.getD wk.toNat []) s12 (!decide (wk=0)) (by decide) (by omega) (by omega);have q13:=tK (!decide (wk=0)) [87,75,83,84] (wd.getD wk.toNat []);obtain⟨s13,e13⟩:∃s,s=s12++tl (opt (!decide (wk=0)) [87,75,83,84] (wd.getD wk.toNat [])):=⟨_,rfl⟩
 rw[←e13]at p13;have n13:([87,75,83,84]:List UInt8).length=4:=rfl;have l13:s13.length≤s12.length+8:=by rw[e13,oH2];omega
 have hfin:s13=jn 59 (lE1 f iv ct un wk en mo we yd md dy ho mi se po):=by unfold lE1 rest;rw[iC2,←e0];simp only[xT1];rw[e13,e12,e11,e10,e9,e8,e7,e6,e5,e4,e3,e2,e1];simp only[dI2]
 refine⟨?_,by rw[←hfin];omega⟩;have hw:w6 (f-1)=f-1:=wr (by omega) (by omega);have hgf:=gm fw (f-1).toNat (by rw[fw7];omega);have hgw:=gm wd wk.toNat (by rw[wd7];omega);have hfl:((fw.map mkS).length:Int)=7:=rfl;have hwl:((wd.map mkS).length:Int)=7:=rfl;have hIi:=rJ iv (by omega) (by omega);have hIc:=rJ ct (by omega) (by omega);have hD:=lM1 dy bdy.1 bdy.2;have hF:(⟨#[70,82,69,81,61]⟩:ByteArray)=mkS [70,82,69,81,61]:=rfl;have hs0:[70,82,69,81,61]++fw.getD (f-1).toNat []=s0:=by rw[e0];rfl
 rw[uJ.f_eq];simp only[hM,pH2,cJ2,cond_false,wB1,hw,nI,hgf,hF,xD,hs0,u2,hIi,hIc,hD,hgw,szS,hfl,hwl,nm0,nm1,nm2,nm3,nm4,nm5,nm6,nm7,nm8,nm9,nm10,nm11,nm12,nm13];simp(disch:=omega)only[ss,zH2,hI2,p1,p2,p3,p4,p5,p6,p7,p8,p9,p10,p11,p12,p13];rw[hfin]
end
theorem eJ1 {r:Rl} (hs:wQ r.2.2.2.2.2.2.1 r.2.2.2.2.2.2.2.1 r.2.2.2.2.2.2.2.2.1 r.2.2.2.2.2.2.2.2.2.1 r.2.2.2.2.2.2.2.2.2.2.1 r.2.2.2.2.2.2.2.2.2.2.2.1 r.2.2.2.2.2.2.2.2.2.2.2.2.1 r.2.2.2.2.2.2.2.2.2.2.2.2.2.1 r.2.2.2.2.2.2.2.2.2.2.2.2.2.2.1) (hM:wA.f r=some (true,())):mayP r.1 r.2.1 r.2.2.1 r.2.2.2.1 r.2.2.2.2.1 r.2.2.2.2.2.1 r.2.2.2.2.2.2.1 r.2.2.2.2.2.2.2.1 r.2.2.2.2.2.2.2.2.1 r.2.2.2.2.2.2.2.2.2.1 r.2.2.2.2.2.2.2.2.2.2.1 r.2.2.2.2.2.2.2.2.2.2.2.1 r.2.2.2.2.2.2.2.2.2.2.2.2.1 r.2.2.2.2.2.2.2.2.2.2.2.2.2.1 r.2.2.2.2.2.2.2.2.2.2.2.2.2.2.1:=by
 have g:=fC1 r.1 r.2.1 r.2.2.1 r.2.2.2.1 r.2.2.2.2.1 r.2.2.2.2.2.1 r.2.2.2.2.2.2.1 r.2.2.2.2.2.2.2.1 r.2.2.2.2.2.2.2.2.1 r.2.2.2.2.2.2.2.2.2.1 r.2.2.2.2.2.2.2.2.2.2.1 r.2.2.2.2.2.2.2.2.2.2.2.1 r.2.2.2.2.2.2.2.2.2.2.2.2.1 r.2.2.2.2.2.2.2.2.2.2.2.2.2.1 r.2.2.2.2.2.2.2.2.2.2.2.2.2.2.1 hs;refine Classical.byContradiction fun q=>?_
 have h1:wA.f r=some (false,()):=g.2 q;rw[hM]at h1;cases h1
noncomputable def pts (r:Rl):List (List UInt8):=lE1 r.1 r.2.1 r.2.2.1 r.2.2.2.1 r.2.2.2.2.1 r.2.2.2.2.2.1 r.2.2.2.2.2.2.1 r.2.2.2.2.2.2.2.1 r.2.2.2.2.2.2.2.2.1 r.2.2.2.2.2.2.2.2.2.1 r.2.2.2.2.2.2.2.2.2.2.1 r.2.2.2.2.2.2.2.2.2.2.2.1 r.2.2.2.2.2.2.2.2.2.2.2.2.1 r.2.2.2.2.2.2.2.2.2.2.2.2.2.1 r.2.2.2.2.2.2.2.2.2.2.2.2.2.2.1
def qM (r:Rl):Prop:=wQ r.2.2.2.2.2.2.1 r.2.2.2.2.2.2.2.1 r.2.2.2.2.2.2.2.2.1 r.2.2.2.2.2.2.2.2.2.1 r.2.2.2.2.2.2.2.2.2.2.1 r.2.2.2.2.2.2.2.2.2.2.2.1 r.2.2.2.2.2.2.2.2.2.2.2.2.1 r.2.2.2.2.2.2.2.2.2.2.2.2.2.1 r.2.2.2.2.2.2.2.2.2.2.2.2.2.2.1
theorem oV (r:Rl) (hs:qM r) (hM:wA.f r=some (true,())):uJ.f r=some (mkS (jn 59 (pts r)),0,())∧(jn 59 (pts r)).length≤4096:=by have hp:=eJ1 hs hM;obtain⟨f,iv,ct,un,wk,en,mo,we,yd,md,dy,ho,mi,se,po,⟨⟩⟩:=r;dsimp only at hp;exact gM1 f iv ct un wk en mo we yd md dy ho mi se po hM hp
theorem eqI2 (a b:List Int) (ha:a.length≤1000000):tA.f a b=some (decide (a=b),()):=by
 rw[tA.f_eq];by_cases hl:a.length=b.length
 ·have key:∀(k i:Nat),a.length-i=k→i≤a.length→tA.l1 a b a.length i=some (decide (a.drop i=b.drop i),()):=by
   intro k
   induction k with
   | zero=>
    intro i hk hia;have e1:a.drop i=[]:=gK2 (by omega);have e2:b.drop i=[]:=gK2 (by omega);rw[tA.l1_eq,e1,e2];simp(disch:=omega)only[ss]
   | succ k ih=>
    intro i hk hia;have h1:i<a.length:=by omega
    have h2:i<b.length:=by omega
    have:=ih (i+1) (by omega) (by omega);rw[tA.l1_eq,oC 0 h1,oC 0 h2];by_cases c:a.getD i 0=b.getD i 0
    ·have e:decide (a.getD i 0::a.drop (i+1)=b.getD i 0::b.drop (i+1))=decide (a.drop (i+1)=b.drop (i+1)):=decide_eq_decide.2 ⟨fun h=>(dK2 h).2,fun h=>by rw[c,h]⟩;rw[e];simp(disch:=omega)only[ss];exact this
    ·have e:decide (a.getD i 0::a.drop (i+1)=b.getD i 0::b.drop (i+1))=false:=dn fun h=>c (dK2 h).1
     rw[e];simp(disch:=omega)only[ss]
  have:=key _ 0 rfl (uH2 _);rw[eI2,mI2,mI2]at this;simp(disch:=omega)only[ss,this]
 ·rw[dn (show ¬a=b from fun h=>hl (by rw[h]))];simp(disch:=omega)only[ss]
theorem eqD2 (a b:List Dy) (ha:a.length≤1000000):uA.f a b=some (decide (a=b),()):=by
 rw[uA.f_eq];by_cases hl:a.length=b.length
 ·have key:∀(k i:Nat),a.length-i=k→i≤a.length→uA.l1 a b a.length i=some (decide (a.drop i=b.drop i),()):=by
   intro k
   induction k with
   | zero=>
    intro i hk hia;have e1:a.drop i=[]:=gK2 (by omega);have e2:b.drop i=[]:=gK2 (by omega);rw[uA.l1_eq,e1,e2];simp(disch:=omega)only[ss]
   | succ k ih=>
    intro i hk hia;have h1:i<a.length:=by omega
    have h2:i<b.length:=by omega
    have:=ih (i+1) (by omega) (by omega);rw[uA.l1_eq,oC ((0,0,()):Dy) h1,oC ((0,0,()):Dy) h2];generalize hx:a.getD i ((0,0,()):Dy)=x;generalize hy:b.getD i ((0,0,()):Dy)=y;have hx':a.getD i ((0,0,()):Int×Int×Unit)=x:=hx;have hy':b.getD i ((0,0,()):Int×Int×Unit)=y:=hy;obtain⟨x1,x2,⟨⟩⟩:=x;obtain⟨y1,y2,⟨⟩⟩:=y;by_cases c:x1=y1∧x2=y2
    ·obtain⟨rfl,rfl⟩:=c;have e:decide ((x1,x2,())::a.drop (i+1)=(x1,x2,())::b.drop (i+1))=decide (a.drop (i+1)=b.drop (i+1)):=decide_eq_decide.2 ⟨fun h=>(dK2 h).2,fun h=>by rw[h]⟩;rw[e];simp(disch:=omega)only[ss,hx',hy'];exact this
    ·have e:decide ((x1,x2,())::a.drop (i+1)=(y1,y2,())::b.drop (i+1))=false:=dn fun h=>c (by have:=(dK2 h).1;cases this;exact⟨rfl,rfl⟩)
     rw[e];have e2:(decide (x1=y1)&&decide (x2=y2))=false:=by
      by_cases c1:x1=y1
      ·rw[dn (show ¬x2=y2 from fun h=>c ⟨c1,h⟩),Bool.and_false]
      ·rw[dn c1,Bool.false_and]
     simp(disch:=omega)only[ss,hx',hy',e2]
  have:=key _ 0 rfl (uH2 _);rw[eI2,mI2,mI2]at this;simp(disch:=omega)only[ss,this]
 ·rw[dn (show ¬a=b from fun h=>hl (by rw[h]))];simp(disch:=omega)only[ss]
theorem dZ (r q:Rl) (hr:qM r):oE (bE.f r q) (r=q):=by
 unfold qM wQ at hr;obtain⟨f,iv,ct,un,wk,en,mo,we,yd,md,dy,ho,mi,se,po,⟨⟩⟩:=r;obtain⟨f',iv',ct',un',wk',en',mo',we',yd',md',dy',ho',mi',se',po',⟨⟩⟩:=q;dsimp only at hr;obtain⟨h1,h2,h3,h4,h5,h6,h7,h8,h9⟩:=hr;have no:∀{p:Prop},¬p→oE (some (false,())) p:=fun h=>⟨false,rfl,by simp[h]⟩
 rw[bE.f_eq];by_cases c:f=f'
 ·by_cases c1:iv=iv'
  ·by_cases c2:ct=ct'
   ·by_cases c3:un=un'
    ·by_cases c4:wk=wk'
     ·by_cases c5:en=en'
      ·subst c c1 c2 c3 c4 c5;simp(disch:=omega)only[ss,beq_self_eq_true];rw[bE.l1_eq,cond_false,eqI2 mo mo' (by omega),eqI2 we we' (by omega),eqI2 yd yd' (by omega),eqI2 md md' (by omega),eqD2 dy dy' (by omega),eqI2 ho ho' (by omega),eqI2 mi mi' (by omega),eqI2 se se' (by omega),eqI2 po po' (by omega)];simp only[pH2];by_cases d1:mo=mo'
       ·by_cases d2:we=we'
        ·by_cases d3:yd=yd'
         ·by_cases d4:md=md'
          ·by_cases d5:dy=dy'
           ·by_cases d6:ho=ho'
            ·by_cases d7:mi=mi'
             ·by_cases d8:se=se'
              ·subst d1 d2 d3 d4 d5 d6 d7 d8;simp only[decide_true,cond_true];refine⟨_,rfl,?_⟩;rw[decide_eq_true_iff];exact⟨fun h=>by rw[h],fun h=>by cases h;rfl⟩
              ·simp only[dp d1,dp d2,dp d3,dp d4,dp d5,dp d6,dp d7,dn d8,cond_true,cond_false];exact no fun h=>d8 (by cases h;rfl)
             ·simp only[dp d1,dp d2,dp d3,dp d4,dp d5,dp d6,dn d7,cond_true,cond_false];exact no fun h=>d7 (by cases h;rfl)
            ·simp only[dp d1,dp d2,dp d3,dp d4,dp d5,dn d6,cond_true,cond_false];exact no fun h=>d6 (by cases h;rfl)
           ·simp only[dp d1,dp d2,dp d3,dp d4,dn d5,cond_true,cond_false];exact no fun h=>d5 (by cases h;rfl)
          ·simp only[dp d1,dp d2,dp d3,dn d4,cond_true,cond_false];exact no fun h=>d4 (by cases h;rfl)
         ·simp only[dp d1,dp d2,dn d3,cond_true,cond_false];exact no fun h=>d3 (by cases h;rfl)
        ·simp only[dp d1,dn d2,cond_true,cond_false];exact no fun h=>d2 (by cases h;rfl)
       ·simp only[dn d1,cond_false];exact no fun h=>d1 (by cases h;rfl)
      ·have e:(en==en')=false:=by cases en <;> cases en' <;> first | rfl | exact absurd rfl c5
       simp(disch:=omega)only[ss,e,bE.l1_eq];exact no fun h=>c5 (by cases h;rfl)
     ·simp(disch:=omega)only[ss,bE.l1_eq];exact no fun h=>c4 (by cases h;rfl)
    ·simp(disch:=omega)only[ss,bE.l1_eq];exact no fun h=>c3 (by cases h;rfl)
   ·simp(disch:=omega)only[ss,bE.l1_eq];exact no fun h=>c2 (by cases h;rfl)
  ·simp(disch:=omega)only[ss,bE.l1_eq];exact no fun h=>c1 (by cases h;rfl)
 ·simp(disch:=omega)only[ss,bE.l1_eq];exact no fun h=>c (by cases h;rfl)
theorem vK {p:Prop} [Decidable p] {X:Option (Bool×Unit)} {Q:Prop} (h:p → ∃b,X=some (b,())∧(b=true→Q)):∃b,(bif decide p then X else some (false,()))=some (b,())∧(b=true→Q):=by
 by_cases c:p
 ·rw[dp c];exact h c
 ·rw[dn c];exact⟨false,rfl,fun q=>by cases q⟩
theorem dW1 (r:Rl):∃b,qH.f r=some (b,())∧(b=true→qM r):=by
 rw[qH.f_eq];refine vK fun h1=>vK fun h2=>vK fun h3=>vK fun h4=>vK fun h5=>vK fun h6=>vK fun h7=>vK fun h8=>⟨_,rfl,fun h9=>?_⟩
 rw[decide_eq_true_iff]at h9;unfold qM wQ;omega
theorem tC2 {r:Rl} (h:sh60 r):qM r:=xA1 h
theorem uG1 (s:List UInt8) (hs:s.length≤5000):
  (∃R:Rl,yA.f (mkS s)=some (R,0,0,())∧sh60 R∧wA.f R=some (true,()))∨(∃(n:Nat) (e:Int),yA.f (mkS s)=some (zR,(n:Int),e,())∧e≠0):=by
 obtain⟨R,n,e,h1,_,hR⟩:=vY s (by omega);by_cases c:s.length≤4096
 ·have p1:=eU1 s c;have hsl:=gM 59 s;obtain⟨a1,a2⟩:=fP1 (segs 59 s) (by omega) (fun t ht=>by have:=hsl.2 t ht;omega) _ 0 (0,1,0,0,0,false,[],[],[],[],[],[],[],[],[],()) [] rfl (uH2 _) (yH2 _);by_cases g:∃us,All2 Good ((segs 59 s).drop 0) us∧(∀u∈us,u.key∉([]:List (List UInt8)))∧(keys us).Nodup
  ·obtain⟨us,g1,g2,g3⟩:=g;have x1:=a1 us g1 g2 g3;rw[p1,x1]at h1;unfold fin at x1 h1;by_cases hF:FREQ∈[]++keys us
   ·rw[if_pos hF]at x1 h1;cases hM:wA.f (oN1 (0,1,0,0,0,false,[],[],[],[],[],[],[],[],[],()) us)with
    | none=>rw[hM]at h1;cases h1
    | some b=>
     obtain⟨b,⟨⟩⟩:=b;rw[hM]at x1 h1
     cases b with
     | true=>
      have h1:some (oN1 (0,1,0,0,0,false,[],[],[],[],[],[],[],[],[],()) us,(0:Int),(0:Int),())=some (R,n,e,()):=h1;have e1:oN1 (0,1,0,0,0,false,[],[],[],[],[],[],[],[],[],()) us=R:=(Prod.mk.inj (sI2 h1)).1;exact .inl ⟨_,p1.trans x1,e1 ▸ hR,hM⟩
     | false=>exact .inr ⟨0,1,p1.trans x1,by decide⟩
   ·rw[if_neg hF]at x1;exact .inr ⟨0,7,p1.trans x1,by decide⟩
  ·obtain⟨n1,x1⟩:=a2 g;exact .inr ⟨n1,4,p1.trans x1,by decide⟩
 ·refine .inr ⟨0,3,?_,by decide⟩;rw[yA.f_eq];simp(disch:=omega)only[ss,szS];rfl
theorem vI2 (a b:List Int) (ha:a.length≤1000000):wC.f a b=some (decide (a=b),()):=by
 rw[wC.f_eq];by_cases hl:a.length=b.length
 ·have key:∀(k i:Nat),a.length-i=k→i≤a.length→wC.l1 a b i=some (decide (a.drop i=b.drop i),()):=by
   intro k
   induction k with
   | zero=>
    intro i hk hia;have e1:a.drop i=[]:=gK2 (by omega);have e2:b.drop i=[]:=gK2 (by omega);rw[wC.l1_eq,e1,e2];simp(disch:=omega)only[ss]
   | succ k ih=>
    intro i hk hia;have h1:i<a.length:=by omega
    have h2:i<b.length:=by omega
    have:=ih (i+1) (by omega) (by omega);rw[wC.l1_eq,oC 0 h1,oC 0 h2];by_cases c:a.getD i 0=b.getD i 0
    ·have e:decide (a.getD i 0::a.drop (i+1)=b.getD i 0::b.drop (i+1))=decide (a.drop (i+1)=b.drop (i+1)):=decide_eq_decide.2 ⟨fun h=>(dK2 h).2,fun h=>by rw[c,h]⟩;rw[e];simp(disch:=omega)only[ss];exact this
    ·have e:decide (a.getD i 0::a.drop (i+1)=b.getD i 0::b.drop (i+1))=false:=dn fun h=>c (dK2 h).1
     rw[e];simp(disch:=omega)only[ss]
  have:=key _ 0 rfl (uH2 _);rw[eI2,mI2,mI2]at this;simp(disch:=omega)only[ss,this]
 ·rw[dn (show ¬a=b from fun h=>hl (by rw[h]))];simp(disch:=omega)only[ss]
theorem vD2 (a b:List Dy) (ha:a.length≤1000000):cD.f a b=some (decide (a=b),()):=by
 rw[cD.f_eq];by_cases hl:a.length=b.length
 ·have key:∀(k i:Nat),a.length-i=k→i≤a.length→cD.l1 a b i=some (decide (a.drop i=b.drop i),()):=by
   intro k
   induction k with
   | zero=>
    intro i hk hia;have e1:a.drop i=[]:=gK2 (by omega);have e2:b.drop i=[]:=gK2 (by omega);rw[cD.l1_eq,e1,e2];simp(disch:=omega)only[ss]
   | succ k ih=>
    intro i hk hia;have h1:i<a.length:=by omega
    have h2:i<b.length:=by omega
    have:=ih (i+1) (by omega) (by omega);rw[cD.l1_eq,oC ((0,0,()):Dy) h1,oC ((0,0,()):Dy) h2];generalize hx:a.getD i ((0,0,()):Dy)=x;generalize hy:b.getD i ((0,0,()):Dy)=y;have hx':a.getD i ((0,0,()):Int×Int×Unit)=x:=hx;have hy':b.getD i ((0,0,()):Int×Int×Unit)=y:=hy;obtain⟨x1,x2,⟨⟩⟩:=x;obtain⟨y1,y2,⟨⟩⟩:=y;by_cases c:x1=y1∧x2=y2
    ·obtain⟨rfl,rfl⟩:=c;have e:decide ((x1,x2,())::a.drop (i+1)=(x1,x2,())::b.drop (i+1))=decide (a.drop (i+1)=b.drop (i+1)):=decide_eq_decide.2 ⟨fun h=>(dK2 h).2,fun h=>by rw[h]⟩;rw[e];simp(disch:=omega)only[ss,hx',hy',cD.l2_eq];exact this
    ·have e:decide ((x1,x2,())::a.drop (i+1)=(y1,y2,())::b.drop (i+1))=false:=dn fun h=>c (by have:=(dK2 h).1;cases this;exact⟨rfl,rfl⟩)
     rw[e];by_cases c1:x1=y1
     ·have c2:¬x2=y2:=fun h=>c ⟨c1,h⟩
      simp(disch:=omega)only[ss,hx',hy',cD.l2_eq]
     ·simp(disch:=omega)only[ss,hx',hy',cD.l2_eq]
  have:=key _ 0 rfl (uH2 _);rw[eI2,mI2,mI2]at this;simp(disch:=omega)only[ss,this]
 ·rw[dn (show ¬a=b from fun h=>hl (by rw[h]))];simp(disch:=omega)only[ss]
theorem mY (r q:Rl) (hr:qM r):oE (sH.f r q) (r=q):=by
 unfold qM wQ at hr;obtain⟨f,iv,ct,un,wk,en,mo,we,yd,md,dy,ho,mi,se,po,⟨⟩⟩:=r;obtain⟨f',iv',ct',un',wk',en',mo',we',yd',md',dy',ho',mi',se',po',⟨⟩⟩:=q;dsimp only at hr;obtain⟨h1,h2,h3,h4,h5,h6,h7,h8,h9⟩:=hr;have no:∀{p:Prop},¬p→oE (some (false,())) p:=fun h=>⟨false,rfl,by simp[h]⟩
 rw[sH.f_eq,vI2 mo mo' (by omega),vI2 we we' (by omega),vI2 yd yd' (by omega),vI2 md md' (by omega),vD2 dy dy' (by omega),vI2 ho ho' (by omega),vI2 mi mi' (by omega),vI2 se se' (by omega),vI2 po po' (by omega)];simp only[pH2];by_cases c0:f=f'
 rotate_left
 ·simp only[dn c0,cond_true,cond_false];exact no fun h=>c0 (by cases h;rfl)
 by_cases c1:iv=iv'
 rotate_left
 ·simp only[dp c0,dn c1,cond_true,cond_false];exact no fun h=>c1 (by cases h;rfl)
 by_cases c2:ct=ct'
 rotate_left
 ·simp only[dp c0,dp c1,dn c2,cond_true,cond_false];exact no fun h=>c2 (by cases h;rfl)
 by_cases c3:un=un'
 rotate_left
 ·simp only[dp c0,dp c1,dp c2,dn c3,cond_true,cond_false];exact no fun h=>c3 (by cases h;rfl)
 by_cases c4:wk=wk'
 rotate_left
 ·simp only[dp c0,dp c1,dp c2,dp c3,dn c4,cond_true,cond_false];exact no fun h=>c4 (by cases h;rfl)
 by_cases c5:en=en'
 rotate_left
 ·have e:(en==en')=false:=by cases en <;> cases en' <;> first | rfl | exact absurd rfl c5
  simp only[dp c0,dp c1,dp c2,dp c3,dp c4,e,cond_true,cond_false];exact no fun h=>c5 (by cases h;rfl)
 have e5:(en==en')=true:=by rw[c5,beq_self_eq_true]
 by_cases c6:mo=mo'
 rotate_left
 ·simp only[dp c0,dp c1,dp c2,dp c3,dp c4,e5,dn c6,cond_true,cond_false];exact no fun h=>c6 (by cases h;rfl)
 by_cases c7:we=we'
 rotate_left
 ·simp only[dp c0,dp c1,dp c2,dp c3,dp c4,dp c6,e5,dn c7,cond_true,cond_false];exact no fun h=>c7 (by cases h;rfl)
 by_cases c8:yd=yd'
 rotate_left
 ·simp only[dp c0,dp c1,dp c2,dp c3,dp c4,dp c6,dp c7,e5,dn c8,cond_true,cond_false];exact no fun h=>c8 (by cases h;rfl)
 by_cases c9:md=md'
 rotate_left
 ·simp only[dp c0,dp c1,dp c2,dp c3,dp c4,dp c6,dp c7,dp c8,e5,dn c9,cond_true,cond_false];exact no fun h=>c9 (by cases h;rfl)
 by_cases c10:dy=dy'
 rotate_left
 ·simp only[dp c0,dp c1,dp c2,dp c3,dp c4,dp c6,dp c7,dp c8,dp c9,e5,dn c10,cond_true,cond_false];exact no fun h=>c10 (by cases h;rfl)
 by_cases c11:ho=ho'
 rotate_left
 ·simp only[dp c0,dp c1,dp c2,dp c3,dp c4,dp c6,dp c7,dp c8,dp c9,dp c10,e5,dn c11,cond_true,cond_false];exact no fun h=>c11 (by cases h;rfl)
 by_cases c12:mi=mi'
 rotate_left
 ·simp only[dp c0,dp c1,dp c2,dp c3,dp c4,dp c6,dp c7,dp c8,dp c9,dp c10,dp c11,e5,dn c12,cond_true,cond_false];exact no fun h=>c12 (by cases h;rfl)
 by_cases c13:se=se'
 rotate_left
 ·simp only[dp c0,dp c1,dp c2,dp c3,dp c4,dp c6,dp c7,dp c8,dp c9,dp c10,dp c11,dp c12,e5,dn c13,cond_true,cond_false];exact no fun h=>c13 (by cases h;rfl)
 by_cases c14:po=po'
 rotate_left
 ·simp only[dp c0,dp c1,dp c2,dp c3,dp c4,dp c6,dp c7,dp c8,dp c9,dp c10,dp c11,dp c12,dp c13,e5,dn c14,cond_true,cond_false];exact no fun h=>c14 (by cases h;rfl)
 simp only[dp c0,dp c1,dp c2,dp c3,dp c4,dp c6,dp c7,dp c8,dp c9,dp c10,dp c11,dp c12,dp c13,dp c14,e5,cond_true];exact⟨true,rfl,by simp[c0,c1,c2,c3,c4,c5,c6,c7,c8,c9,c10,c11,c12,c13,c14]⟩
theorem vQ1 (n:Int):Lib.itoa n≠[]:=by
 by_cases hn:n<0
 ·rw[tG hn];simp
 ·rw[fG hn];exact D_ne _
theorem bH2 (c:UInt8):∀(l:List (List UInt8)),l≠[]→(∀s∈l,s≠[])→jn c l≠[]
 | [],h,_=>absurd rfl h
 | [a],_,h=>h a (by simp)
 | a::b::l,_,_=>by show a++c::jn c (b::l)≠[];simp
theorem xL1 {l:List Int} (h:small l) (i:Nat):small (l.take i):=fun n hn=>h n (hL2 hn)
theorem vH (name:List UInt8) (l:List Int) (hn:name.length≤20) (h:l.length≤60) (hb:small l):dC.f (mkS name) l=some (mkS (tl (opt (decide ((l.length:Int)>0)) name (jn 44 (l.map Lib.itoa)))),()):=by
 have h44:(⟨#[44]⟩:ByteArray)=mkS [44]:=rfl;have h59:(⟨#[59]⟩:ByteArray)=mkS [59]:=rfl;have h61:(⟨#[61]⟩:ByteArray)=mkS [61]:=rfl;have hnil:(⟨#[]⟩:ByteArray)=mkS []:=rfl;have hlen:=uI l h hb;have key:∀(k i:Nat),l.length-i=k→i≤l.length→dC.l1 (mkS name) l (mkS (jn 44 ((l.take i).map Lib.itoa))) i=some (mkS (tl (opt (decide ((l.length:Int)>0)) name (jn 44 (l.map Lib.itoa)))),()):=by
  intro k
  induction k with
  | zero=>
   intro i hk hil;have e:i=l.length:=by omega
   subst e;rw[uJ2,dC.l1_eq,iE,hnil,dm];by_cases c:l=[]
   ·subst c;simp(disch:=omega)only[ss,hI2];rfl
   ·have hp:(l.length:Int)>0:=by have:=hK2.2 c;omega
    have hj:¬jn 44 (l.map Lib.itoa)=[]:=bH2 44 _ (by simpa using c) fun s hs=>by obtain⟨n,_,e⟩:=pI2.1 hs;rw[←e];exact vQ1 n
    rw[dp hp,dn hj];simp(disch:=omega)only[ss,h59,h61,szS,xD,oH2,rH2];have:[59]++name++[61]++jn 44 (l.map Lib.itoa)=tl (opt true name (jn 44 (l.map Lib.itoa))):=by simp[opt,tl]
    rw[this]
  | succ k ih=>
   intro i hk hil;have hlt:i<l.length:=by omega
   have hn':=hb _ (iD 0 hlt);have hD:=xP (l.getD i 0) (by omega) (by omega);have hl4:=kM (l.getD i 0) (by omega) (by omega);have hpl:=uI (l.take i) (by rw[cI2];omega) (xL1 hb i);have:=ih (i+1) (by omega) (by omega);rw[tE 0 hlt,fI2,List.map_singleton,wZ,dp (show(l.length:Int)>0 by omega)]at this;rw[dC.l1_eq];by_cases c:i=0
   ·subst c;have e0:(l.take 0).map Lib.itoa=[]:=by simp
    rw[e0]at this ⊢;rw[if_pos rfl]at this;have hj0:jn 44 ([]:List (List UInt8))=[]:=rfl;rw[hj0];simp(disch:=omega)only[ss,dC.l2_eq,hD,szS,xD,hI2,aJ2];exact this
   ·have hne:(l.take i).map Lib.itoa≠[]:=by intro q;have:=congrArg List.length q;rw[tH2,cI2,hI2]at this;omega
    rw[if_neg hne]at this;simp(disch:=omega)only[ss,h44,dC.l2_eq,hD,szS,xD,oH2,rH2];rw[show jn 44 ((l.take i).map Lib.itoa)++[44]++Lib.itoa (l.getD i 0)=jn 44 ((l.take i).map Lib.itoa)++44::Lib.itoa (l.getD i 0) by simp];exact this
 have:=key _ 0 rfl (uH2 _);rw[eI2]at this;rw[dC.f_eq];exact this
theorem fI1 {l:List Dy} (h:xW l) (i:Nat):xW (l.take i):=fun n hn=>h n (hL2 hn)
section
variable (f iv ct un wk : Int) (en : Bool) (mo we yd md : List Int) (dy : List Dy) (ho mi se po : List Int)
def preD (dy:List Dy) (i:Nat):List UInt8:=if i=0 then []else [59,66,89,68,65,89,61]++jn 44 ((dy.take i).map dt)
theorem aQ1 (h:dy.length≤60) (hb:xW dy) (s:List UInt8) (hs:s.length≤100000):∀(k i:Nat),dy.length-i=k→i≤dy.length →
  pA.l4 (mkS (s++preD dy i)) i f iv ct un wk en mo we yd md dy ho mi se po=pA.l4 (mkS (s++tl (opt (decide ((dy.length:Int)>0)) [66,89,68,65,89] (jn 44 (dy.map dt))))) dy.length f iv ct un wk en mo we yd md dy ho mi se po:=by
 have h44:(⟨#[44]⟩:ByteArray)=mkS [44]:=rfl;have hB:(⟨#[59,66,89,68,65,89,61]⟩:ByteArray)=mkS [59,66,89,68,65,89,61]:=rfl;have hBl:([59,66,89,68,65,89,61]:List UInt8).length=7:=rfl;intro k
 induction k with
 | zero=>
  intro i hk hil;have e:i=dy.length:=by omega
  subst e
  congr 2
  unfold preD;rw[uJ2];by_cases c:dy.length=0
  ·rw[if_pos c,dn (by omega)];rfl
  ·rw[if_neg c,dp (by omega)];simp[opt,tl]
 | succ k ih=>
  intro i hk hil;have hlt:i<dy.length:=by omega
  have hn:=hb _ (iD ((0,0,()):Dy) hlt);have:=ih (i+1) (by omega) (by omega);rw[←this];have hpl:=gB1 (dy.take i) (by rw[cI2];omega) (fI1 hb i)
  have hpre:preD dy (i+1)=(if i=0 then [59,66,89,68,65,89,61]else preD dy i++[44])++dt (dy.getD i ((0,0,()):Dy)):=by
   unfold preD;rw[if_neg (by omega),tE ((0,0,()):Dy) hlt,fI2,List.map_singleton,wZ];by_cases c:i=0
   ·subst c;rw[if_pos (by simp),if_pos rfl]
   ·have hne:(dy.take i).map dt≠[]:=by intro q;have:=congrArg List.length q;rw[tH2,cI2,hI2]at this;omega
    rw[if_neg hne,if_neg c,if_neg c];simp
  have hprel:(preD dy i).length≤430:=by
   unfold preD;split
   ·exact uH2 _
   ·rw[oH2];omega
  rw[hpre];have hdl:=tR1 (dy.getD i ((0,0,()):Dy)) ⟨hn.1,hn.2.1⟩;generalize hd:dy.getD i ((0,0,()):Dy)=d at hn hdl;have hd':dy.getD i ((0,0,()):Int×Int×Unit)=d:=hd;have hD:=xP d.1 (by omega) (by omega);have hgw:=gm wd d.2.1.toNat (by rw[wd7];omega);have hwl:((wd.map mkS).length:Int)=7:=rfl;have hl4:=kM d.1 (by omega) (by omega);have hl2:=rF1 d.2.1.toNat
  have step:∀t:List UInt8,t.length≤101000→pA.l5 (mkS t) (i:Int) f iv ct un wk en mo we yd md dy ho mi se po=pA.l4 (mkS (t++dt d)) ((i+1:Nat):Int) f iv ct un wk en mo we yd md dy ho mi se po:=fun t ht=>by
   rw[pA.l5_eq];by_cases c:d.1=0
   ·have e:dt d=wd.getD d.2.1.toNat []:=by unfold dt;rw[if_pos c];rfl
    rw[e];simp(disch:=omega)only[ss,hd',pA.l6_eq,sP,hwl,hgw,szS,xD,hJ2,gJ2]
   ·have e:dt d=Lib.itoa d.1++wd.getD d.2.1.toNat []:=by unfold dt;rw[if_neg c]
    rw[e,←dI2];simp(disch:=omega)only[ss,hd',hD,pA.l6_eq,sP,hwl,hgw,szS,xD,oH2,hJ2,gJ2]
  rw[pA.l4_eq];by_cases c:i=0
  ·subst c;rw[if_pos rfl];have e0:preD dy 0=[]:=rfl;rw[e0,bI2];have hst:=step (s++[59,66,89,68,65,89,61]) (by rw[oH2];omega);rw[dI2,eI2]at hst;simp(disch:=omega)only[ss,hB,szS,hBl,xD];exact hst
  ·rw[if_neg c];have hst:=step (s++preD dy i++[44]) (by rw[oH2,oH2,rH2];omega);simp(disch:=omega)only[ss,h44,szS,oH2,rH2,xD];rw[hst];simp only[dI2]
theorem iG1 (hM:bA.f (f,iv,ct,un,wk,en,mo,we,yd,md,dy,ho,mi,se,po,())=some (true,())) (hp:mayP f iv ct un wk en mo we yd md dy ho mi se po):pA.f (f,iv,ct,un,wk,en,mo,we,yd,md,dy,ho,mi,se,po,())=some (mkS (jn 59 (lE1 f iv ct un wk en mo we yd md dy ho mi se po)),0,()):=by
 obtain⟨b1,b2,b3,bmo,bwe,byd,bmd,bdy,bho,bmi,bse,bpo⟩:=oY1 f iv ct un wk en mo we yd md dy ho mi se po hp;obtain⟨u1,_,_,u2,_⟩:=yA1 un b3;have hwf:(fw.getD (f-1).toNat []).length≤8:=iY1 _;have hwk:(wd.getD wk.toNat []).length≤2:=rF1 _;have li:=kM iv (by omega) (by omega);have lc:=kM ct (by omega) (by omega);have hIi:=xP iv (by omega) (by omega);have hIc:=xP ct (by omega) (by omega);have hfr:(([]:List UInt8)::fw).getD f.toNat []=fw.getD (f-1).toNat []:=by
  have:f=1∨f=2∨f=3∨f=4∨f=5∨f=6∨f=7:=by omega
  rcases this with rfl | rfl | rfl | rfl | rfl | rfl | rfl <;> rfl
 have hgf:=gm (([]:List UInt8)::fw) f.toNat (by rw[zH2,fw7];omega);rw[hfr]at hgf;have hgw:=gm wd wk.toNat (by rw[wd7];omega);have hfl:(((([]:List UInt8)::fw).map mkS).length:Int)=8:=rfl;have hwl:((wd.map mkS).length:Int)=7:=rfl;have hF:(⟨#[70,82,69,81,61]⟩:ByteArray)=mkS [70,82,69,81,61]:=rfl;obtain⟨s0,e0⟩:∃s,s=[70,82,69,81]++61::fw.getD (f-1).toNat []:=⟨_,rfl⟩
 have hs0:[70,82,69,81,61]++fw.getD (f-1).toNat []=s0:=by rw[e0];rfl
 have l0:s0.length≤13:=by rw[e0];simp only[oH2,zH2,hI2];omega
 have n1:(⟨#[59,73,78,84,69,82,86,65,76,61]⟩:ByteArray)=mkS [59,73,78,84,69,82,86,65,76,61]:=rfl;have n2:(⟨#[59,67,79,85,78,84,61]⟩:ByteArray)=mkS [59,67,79,85,78,84,61]:=rfl;have n3:(⟨#[59,85,78,84,73,76,61]⟩:ByteArray)=mkS [59,85,78,84,73,76,61]:=rfl;have n4:(⟨#[59,87,75,83,84,61]⟩:ByteArray)=mkS [59,87,75,83,84,61]:=rfl;have z1:([59,73,78,84,69,82,86,65,76,61]:List UInt8).length=10:=rfl;have z2:([59,67,79,85,78,84,61]:List UInt8).length=7:=rfl;have z3:([59,85,78,84,73,76,61]:List UInt8).length=7:=rfl;have z4:([59,87,75,83,84,61]:List UInt8).length=6:=rfl;have z0:([70,82,69,81,61]:List UInt8).length=5:=rfl;obtain⟨o1,q1⟩:∃o,o=tl (opt (!decide (iv=1)) [73,78,84,69,82,86,65,76] (Lib.itoa iv)):=⟨_,rfl⟩
 obtain⟨o2,q2⟩:∃o,o=tl (opt (!decide (ct=0)) [67,79,85,78,84] (Lib.itoa ct)):=⟨_,rfl⟩
 obtain⟨o3,q3⟩:∃o,o=tl (opt en [85,78,84,73,76] (utx un)):=⟨_,rfl⟩
 obtain⟨m1,r1⟩:∃o,o=tl (opt (decide ((mo.length:Int)>0)) [66,89,77,79,78,84,72] (jn 44 (mo.map Lib.itoa))):=⟨_,rfl⟩
 obtain⟨m2,r2⟩:∃o,o=tl (opt (decide ((we.length:Int)>0)) [66,89,87,69,69,75,78,79] (jn 44 (we.map Lib.itoa))):=⟨_,rfl⟩
 obtain⟨m3,r3⟩:∃o,o=tl (opt (decide ((yd.length:Int)>0)) [66,89,89,69,65,82,68,65,89] (jn 44 (yd.map Lib.itoa))):=⟨_,rfl⟩
 obtain⟨m4,r4⟩:∃o,o=tl (opt (decide ((md.length:Int)>0)) [66,89,77,79,78,84,72,68,65,89] (jn 44 (md.map Lib.itoa))):=⟨_,rfl⟩
 obtain⟨o5,q5⟩:∃o,o=tl (opt (decide ((dy.length:Int)>0)) [66,89,68,65,89] (jn 44 (dy.map dt))):=⟨_,rfl⟩
 obtain⟨m5,r5⟩:∃o,o=tl (opt (decide ((ho.length:Int)>0)) [66,89,72,79,85,82] (jn 44 (ho.map Lib.itoa))):=⟨_,rfl⟩
 obtain⟨m6,r6⟩:∃o,o=tl (opt (decide ((mi.length:Int)>0)) [66,89,77,73,78,85,84,69] (jn 44 (mi.map Lib.itoa))):=⟨_,rfl⟩
 obtain⟨m7,r7⟩:∃o,o=tl (opt (decide ((se.length:Int)>0)) [66,89,83,69,67,79,78,68] (jn 44 (se.map Lib.itoa))):=⟨_,rfl⟩
 obtain⟨m8,r8⟩:∃o,o=tl (opt (decide ((po.length:Int)>0)) [66,89,83,69,84,80,79,83] (jn 44 (po.map Lib.itoa))):=⟨_,rfl⟩
 obtain⟨o9,q9⟩:∃o,o=tl (opt (!decide (wk=0)) [87,75,83,84] (wd.getD wk.toNat [])):=⟨_,rfl⟩
 have L:∀(b:Bool) (name v o:List UInt8),o=tl (opt b name v)→o.length≤name.length+v.length+2:=fun b name v o e=>by rw[e];exact tK b name v
 have ll:∀(x:List Int) (name o:List UInt8),x.length≤60→small x→name.length≤20→o=tl (opt (decide ((x.length:Int)>0)) name (jn 44 (x.map Lib.itoa)))→o.length≤400:=fun x name o h1 h2 h3 e=>by have:=L _ _ _ _ e;have:=uI x h1 h2;omega
 have y1:o1.length≤100:=by have:=L _ _ _ _ q1;rw[show([73,78,84,69,82,86,65,76]:List UInt8).length=8 from rfl]at this;omega
 have y2:o2.length≤100:=by have:=L _ _ _ _ q2;rw[show([67,79,85,78,84]:List UInt8).length=5 from rfl]at this;omega
 have y3:o3.length≤100:=by have:=L _ _ _ _ q3;rw[show([85,78,84,73,76]:List UInt8).length=5 from rfl]at this;omega
 have y5:o5.length≤500:=by have:=L _ _ _ _ q5;have:=gB1 dy bdy.1 bdy.2;rw[show([66,89,68,65,89]:List UInt8).length=5 from rfl]at *;omega
 have k1:=ll mo _ m1 bmo.1 bmo.2 (by decide) r1;have k2:=ll we _ m2 bwe.1 bwe.2 (by decide) r2;have k3:=ll yd _ m3 byd.1 byd.2 (by decide) r3;have k4:=ll md _ m4 bmd.1 bmd.2 (by decide) r4;have k5:=ll ho _ m5 bho.1 bho.2 (by decide) r5;have k6:=ll mi _ m6 bmi.1 bmi.2 (by decide) r6;have k7:=ll se _ m7 bse.1 bse.2 (by decide) r7;have k8:=ll po _ m8 bpo.1 bpo.2 (by decide) r8;have v1:=vH [66,89,77,79,78,84,72] mo (by decide) bmo.1 bmo.2;have v2:=vH [66,89,87,69,69,75,78,79] we (by decide) bwe.1 bwe.2;have v3:=vH [66,89,89,69,65,82,68,65,89] yd (by decide) byd.1 byd.2;have v4:=vH [66,89,77,79,78,84,72,68,65,89] md (by decide) bmd.1 bmd.2;have v5:=vH [66,89,72,79,85,82] ho (by decide) bho.1 bho.2;have v6:=vH [66,89,77,73,78,85,84,69] mi (by decide) bmi.1 bmi.2;have v7:=vH [66,89,83,69,67,79,78,68] se (by decide) bse.1 bse.2;have v8:=vH [66,89,83,69,84,80,79,83] po (by decide) bpo.1 bpo.2;rw[←r1]at v1;rw[←r2]at v2;rw[←r3]at v3;rw[←r4]at v4;rw[←r5]at v5;rw[←r6]at v6;rw[←r7]at v7;rw[←r8]at v8;have hfin:s0++o1++o2++o3++(m1++m2++m3++m4)++o5++(m5++m6++m7++m8)++o9=jn 59 (lE1 f iv ct un wk en mo we yd md dy ho mi se po):=by unfold lE1 rest;rw[iC2,←e0];simp only[xT1];rw[q1,q2,q3,r1,r2,r3,r4,q5,r5,r6,r7,r8,q9];simp only[dI2]
 have p4:∀s:List UInt8,s.length≤10000→pA.l4 (mkS s) dy.length f iv ct un wk en mo we yd md dy ho mi se po=some (mkS (s++(m5++m6++m7++m8)++o9),0,()):=fun s hs=>by
  have hge:¬((dy.length:Int)<(dy.length:Int)):=Int.lt_irrefl _;rw[pA.l4_eq,dn hge,cond_false];simp only[nm10,nm11,nm12,nm13,v5,v6,v7,v8,pH2];by_cases c:wk=0
  ·have e9:o9=[]:=by rw[q9,dp c];rfl
   rw[e9];simp(disch:=omega)only[ss,szS,xD,oH2,bI2]
  ·have e9:o9=[59,87,75,83,84,61]++wd.getD wk.toNat []:=by rw[q9,dn c];simp[opt,tl]
   rw[e9];simp(disch:=omega)only[ss,szS,xD,oH2,sP,hwl,hgw,n4,z4]
 have p3:∀s:List UInt8,s.length≤5000→pA.l3 (mkS s) f iv ct un wk en mo we yd md dy ho mi se po=some (mkS (s++(m1++m2++m3++m4)++o5++(m5++m6++m7++m8)++o9),0,()):=fun s hs=>by have hd:=aQ1 f iv ct un wk en mo we yd md dy ho mi se po bdy.1 bdy.2 (s++(m1++m2++m3++m4)) (by simp only[oH2];omega) _ 0 rfl (uH2 _);have e0:preD dy 0=[]:=rfl;rw[e0,bI2,←q5,eI2,p4 _ (by simp only[oH2];omega)]at hd;rw[pA.l3_eq];simp only[nm6,nm7,nm8,nm9,v1,v2,v3,v4,pH2];simp(disch:=omega)only[ss,szS,xD,oH2,hd]
 have p2:∀s:List UInt8,s.length≤4000→pA.l2 (mkS s) f iv ct un wk en mo we yd md dy ho mi se po=some (mkS (s++o3++(m1++m2++m3++m4)++o5++(m5++m6++m7++m8)++o9),0,()):=fun s hs=>by
  rw[pA.l2_eq]
  cases en with
  | false=>
   have e3:o3=[]:=by rw[q3];rfl
   rw[cond_false,p3 s (by omega),e3,bI2]
  | true=>
   have e3:o3=[59,85,78,84,73,76,61]++utx un:=by rw[q3];simp[opt,tl]
   have h3:=p3 (s++o3) (by simp only[oH2];omega);rw[e3]at h3 ⊢;simp(disch:=omega)only[ss,u2,n3,szS,z3,xD,oH2];exact h3
 have p1:∀s:List UInt8,s.length≤3000→pA.l1 (mkS s) f iv ct un wk en mo we yd md dy ho mi se po=some (mkS (s++o2++o3++(m1++m2++m3++m4)++o5++(m5++m6++m7++m8)++o9),0,()):=fun s hs=>by
  rw[pA.l1_eq];by_cases c:ct=0
  ·have e2:o2=[]:=by rw[q2,dp c];rfl
   rw[dp c,cJ2,cond_false,p2 s (by omega),e2,bI2]
  ·have e2:o2=[59,67,79,85,78,84,61]++Lib.itoa ct:=by rw[q2,dn c];simp[opt,tl]
   have h3:=p2 (s++o2) (by simp only[oH2];omega);rw[e2]at h3 ⊢;simp(disch:=omega)only[ss,hIc,n2,szS,z2,xD,oH2];exact h3
 rw[pA.f_eq];simp only[hM,pH2,cJ2,cond_false,wI1,hgf,hF,xD,hs0,szS,hfl,z0];by_cases c:iv=1
 ·have e1:o1=[]:=by rw[q1,dp c];rfl
  have h3:=p1 s0 (by omega);rw[←hfin,e1,bI2];simp(disch:=omega)only[ss];exact h3
 ·have e1:o1=[59,73,78,84,69,82,86,65,76,61]++Lib.itoa iv:=by rw[q1,dn c];simp[opt,tl]
  have h3:=p1 (s0++o1) (by simp only[oH2];omega);rw[←hfin];rw[e1]at h3 ⊢;simp(disch:=omega)only[ss,hIi,n1,szS,z1,xD,oH2];exact h3
end
def part (k:Nat) (u:UInt8):List UInt8:=if k=0 then []else Lib.decDigits k++[u]
def durT (n:Nat):List UInt8:=
 if n%604800=0 then [80]++Lib.decDigits (n/604800)++[87]
 else if n%86400=0 then [80]++part (n/86400) 68
 else [80]++part (n/86400) 68++([84]++part (n%86400/3600) 72++part (n%86400/60%60) 77++part (n%86400%60) 83)
theorem dF {k:Nat} (u:UInt8) (h:k≤999999999):(part k u).length≤10:=by
 have:=(fI k).2 h;unfold part;split
 ·simp
 ·rw[oH2,rH2];omega
theorem gP1 (k:Nat) (h:k≤999999999):kD.f (k:Int)=some (mkS (Lib.decDigits k),()):=by rw[rJ k (by omega) (by omega),fG (by omega),oJ2]
theorem rP (k:Nat) (u:UInt8) (h:k≤999999999):qD.f (k:Int) (mkS [u])=some (mkS (part k u),()):=by
 have hl:=(fI k).2 h;rw[qD.f_eq,gP1 k h];unfold part;by_cases c:k=0
 ·subst c;rfl
 ·rw[if_neg c];simp(disch:=omega)only[ss,szS,xD,rH2]
theorem vC1 (n:Nat) (h1:1≤n) (h2:n≤2147483648):mD.f (n:Int)=some (mkS (durT n),0,()):=by
 have e1:Int.tmod (n:Int) 604800=((n%604800:Nat):Int):=by rw[tmn (by omega)];omega
 have e2:w6 (Int.tdiv (n:Int) 604800)=((n/604800:Nat):Int):=by rw[tdn (by omega),wr (by omega) (by omega)];omega
 have e3:w6 (Int.tdiv (n:Int) 86400)=((n/86400:Nat):Int):=by rw[tdn (by omega),wr (by omega) (by omega)];omega
 have e4:Int.tmod (n:Int) 86400=((n%86400:Nat):Int):=by rw[tmn (by omega)];omega
 have e5:w6 (Int.tdiv ((n%86400:Nat):Int) 3600)=((n%86400/3600:Nat):Int):=by rw[tdn (by omega),wr (by omega) (by omega)];omega
 have e6:Int.tmod (w6 (Int.tdiv ((n%86400:Nat):Int) 60)) 60=((n%86400/60%60:Nat):Int):=by rw[tdn (by omega),wr (by omega) (by omega),tmn (by omega)];omega
 have e7:Int.tmod ((n%86400:Nat):Int) 60=((n%86400%60:Nat):Int):=by rw[tmn (by omega)];omega
 have l1:=dF 68 (show n/86400≤999999999 by omega);have l2:=dF 72 (show n%86400/3600≤999999999 by omega);have l3:=dF 77 (show n%86400/60%60≤999999999 by omega);have l4:=dF 83 (show n%86400%60≤999999999 by omega);have l5:=(fI (n/604800)).2 (by omega);have p1:qD.f ((n/86400:Nat):Int) ⟨#[68]⟩=some (mkS (part (n/86400) 68),()):=rP _ 68 (by omega);have p2:qD.f ((n%86400/3600:Nat):Int) ⟨#[72]⟩=some (mkS (part (n%86400/3600) 72),()):=rP _ 72 (by omega);have p3:qD.f ((n%86400/60%60:Nat):Int) ⟨#[77]⟩=some (mkS (part (n%86400/60%60) 77),()):=rP _ 77 (by omega);have p4:qD.f ((n%86400%60:Nat):Int) ⟨#[83]⟩=some (mkS (part (n%86400%60) 83),()):=rP _ 83 (by omega);have q80:(⟨#[80]⟩:ByteArray)=mkS [80]:=rfl;have q84:(⟨#[84]⟩:ByteArray)=mkS [84]:=rfl;have q87:(⟨#[87]⟩:ByteArray)=mkS [87]:=rfl;have hD:=gP1 (n/604800) (by omega);rw[mD.f_eq,dn (by omega),cond_false,dn (by omega),mD.l1_eq,cond_false,e1];unfold durT;by_cases c:n%604800=0
 ·rw[if_pos c,c];simp(disch:=omega)only[ss,e2,hD,q80,q87,szS,xD,oH2,rH2]
 ·rw[if_neg c];by_cases c2:n%86400=0
  ·rw[if_pos c2];simp(disch:=omega)only[ss,e3,e4,p1,q80,szS,xD,oH2,rH2]
  ·rw[if_neg c2];simp(disch:=omega)only[ss,e3,e4,e5,e6,e7,p1,p2,p3,p4,q80,q84,szS,xD,oH2,rH2]
theorem wV1 (s:List UInt8) (tot a:Int) (i:Nat) (hi:i<s.length) (hl:s.length≤100000) (hd:dig (s.getD i 0)):
  gA.l1 (mkS s) tot a (s.length:Int) (i:Int)=gA.l1 (mkS s) tot a (s.length:Int) ((i+1:Nat):Int):=by
 have hbt:bt (mkS s) (i:Int)=((s.getD i 0).toNat:Int):=wH (mkS s) i;unfold dig at hd
 conv=>lhs;rw[gA.l1_eq]
 simp(disch:=omega)only[ss,szS,hbt,gA.l2_eq];rfl
theorem zR1 (s:List UInt8) (tot a:Int) (i:Nat) (hi:i<s.length) (hl:s.length≤100000) (hd:s.getD i 0=80∨s.getD i 0=84):
  gA.l1 (mkS s) tot a (s.length:Int) (i:Int)=gA.l1 (mkS s) tot ((i+1:Nat):Int) (s.length:Int) ((i+1:Nat):Int):=by
 have hbt:bt (mkS s) (i:Int)=((s.getD i 0).toNat:Int):=wH (mkS s) i
 conv=>lhs;rw[gA.l1_eq]
 rcases hd with e | e
 ·rw[e]at hbt;have hbt:bt (mkS s) (i:Int)=80:=hbt;simp(disch:=omega)only[ss,szS,hbt,gA.l2_eq];rfl
 ·rw[e]at hbt;have hbt:bt (mkS s) (i:Int)=84:=hbt;simp(disch:=omega)only[ss,szS,hbt,gA.l2_eq];rfl
def rD1 (c:UInt8) (u:Nat):Prop:=c=87∧u=604800∨c=68∧u=86400∨c=72∧u=3600∨c=77∧u=60∨c=83∧u=1
theorem kC2 (s:List UInt8) (tot a i u:Nat) (hi:i<s.length) (hl:s.length≤100000) (hu:rD1 (s.getD i 0) u) (ha:a<i) (h10:i-a≤10) (hd:digs ((s.drop a).take (i-a))) (ht:tot≤2147483648) (hv:dval 0 ((s.drop a).take (i-a))*u≤2147483648):
  gA.l1 (mkS s) (tot:Int) (a:Int) (s.length:Int) (i:Int)=gA.l1 (mkS s) ((tot+dval 0 ((s.drop a).take (i-a))*u:Nat):Int) ((i+1:Nat):Int) (s.length:Int) ((i+1:Nat):Int):=by
 have hbt:bt (mkS s) (i:Int)=((s.getD i 0).toNat:Int):=wH (mkS s) i;have hx:(mkS s).extract a i=mkS ((s.drop a).take (i-a)):=ex_S s a i;have hn:=(snum ((s.drop a).take (i-a)) (by rw[cI2,qI2];omega)).1 hd;have hl3:∀unit:Nat,unit=u→gA.l3 (mkS s) (tot:Int) (a:Int) (i:Int) (unit:Int) (s.length:Int) (i:Int)=gA.l1 (mkS s) ((tot+dval 0 ((s.drop a).take (i-a))*u:Nat):Int) ((i+1:Nat):Int) (s.length:Int) ((i+1:Nat):Int):=by
  intro unit e;subst e;generalize dval 0 ((s.drop a).take (i-a))=v at hn hv;have w1:w6 ((v:Int)*(unit:Int))=((v*unit:Nat):Int):=by rw[←Int.natCast_mul,wr (by omega) (by omega)]
  rw[gA.l3_eq];simp(disch:=omega)only[ss,szS,hx,hn,gA.l4_eq,w1];rfl
 conv=>lhs;rw[gA.l1_eq]
 rcases hu with⟨e,f⟩ | ⟨e,f⟩ | ⟨e,f⟩ | ⟨e,f⟩ | ⟨e,f⟩ <;> rw[e]at hbt
 ·have hbt:bt (mkS s) (i:Int)=87:=hbt;simp(disch:=omega)only[ss,szS,hbt];exact hl3 604800 f.symm
 ·have hbt:bt (mkS s) (i:Int)=68:=hbt;simp(disch:=omega)only[ss,szS,hbt];exact hl3 86400 f.symm
 ·have hbt:bt (mkS s) (i:Int)=72:=hbt;simp(disch:=omega)only[ss,szS,hbt];exact hl3 3600 f.symm
 ·have hbt:bt (mkS s) (i:Int)=77:=hbt;simp(disch:=omega)only[ss,szS,hbt];exact hl3 60 f.symm
 ·have hbt:bt (mkS s) (i:Int)=83:=hbt;simp(disch:=omega)only[ss,szS,hbt];exact hl3 1 f.symm
theorem yI1 (pre d post:List UInt8) (c:UInt8) (tot u:Nat) (hl:(pre++(d++c::post)).length≤100000) (hd:digs d) (h1:1≤d.length) (h10:d.length≤10) (hu:rD1 c u) (ht:tot≤2147483648) (hv:dval 0 d*u≤2147483648):
  gA.l1 (mkS (pre++(d++c::post))) (tot:Int) (pre.length:Int) ((pre++(d++c::post)).length:Int) (pre.length:Int) =
   gA.l1 (mkS (pre++(d++c::post))) ((tot+dval 0 d*u:Nat):Int) ((pre.length+d.length+1:Nat):Int) ((pre++(d++c::post)).length:Int) ((pre.length+d.length+1:Nat):Int):=by
 obtain⟨s,hs⟩:∃s,s=pre++(d++c::post):=⟨_,rfl⟩
 have hsl:s.length=pre.length+(d.length+(post.length+1)):=by rw[hs];simp
 have hx:(s.drop pre.length).take (pre.length+d.length-pre.length)=d:=by rw[hs,qJ2,kL2,aK2]
 have hc:s.getD (pre.length+d.length) 0=c:=by rw[hs,←dI2,qH2,←oH2,lI2 (yH2 _),Nat.sub_self];rfl
 rw[←hs]at hl ⊢;have hstep:∀j,pre.length≤j→j<pre.length+d.length→gA.l1 (mkS s) (tot:Int) (pre.length:Int) (s.length:Int) (j:Int)=gA.l1 (mkS s) (tot:Int) (pre.length:Int) (s.length:Int) ((j+1:Nat):Int):=by
  intro j h1 h2;refine wV1 s _ _ j (by omega) hl ?_;have:s.getD j 0=d.getD (j-pre.length) 0:=by rw[hs,qH2,lI2 h1,rI2 (by omega),←qH2]
  rw[this];exact hd _ (iD 0 (by omega))
 have hloop:=mH (fun j:Nat=>gA.l1 (mkS s) (tot:Int) (pre.length:Int) (s.length:Int) (j:Int)) (i:=pre.length) (k:=pre.length+d.length) (by omega) hstep;have hu2:=kC2 s tot pre.length (pre.length+d.length) u (by omega) hl (by rw[hc];exact hu) (by omega) (by omega) (by rw[hx];exact hd) ht (by rw[hx];exact hv);rw[hx]at hu2;exact hloop.trans hu2
theorem pU (pre post:List UInt8) (k:Nat) (c:UInt8) (tot u:Nat) (hl:(pre++(part k c++post)).length≤100000) (hk:k≤999999999) (hu:rD1 c u) (ht:tot≤2147483648) (hv:k*u≤2147483648):
  gA.l1 (mkS (pre++(part k c++post))) (tot:Int) (pre.length:Int) ((pre++(part k c++post)).length:Int) (pre.length:Int) =
   gA.l1 (mkS (pre++(part k c++post))) ((tot+k*u:Nat):Int) ((pre++part k c).length:Int) ((pre++(part k c++post)).length:Int) ((pre++part k c).length:Int):=by
 unfold part at *;by_cases h0:k=0
 ·subst h0;rw[if_pos rfl,aJ2,bI2,Nat.zero_mul,tK2]
 ·rw[if_neg h0]at hl ⊢;have e:Lib.decDigits k++[c]++post=Lib.decDigits k++c::post:=by simp
  have hp:=dP1 k;have h9:=(fI k).2 hk;have hq:(pre++(Lib.decDigits k++[c])).length=pre.length+(Lib.decDigits k).length+1:=by simp;omega
  rw[hq];rw[e]at hl ⊢;have:=yI1 pre (Lib.decDigits k) post c tot u hl (nE1 k) (by omega) (by omega) hu ht (by rw[rM];exact hv);rw[rM]at this;exact this
theorem jD2 (s:List UInt8) (n:Nat) (a:Int) (h1:1≤n) (h2:n≤2147483648) (hs:s=durT n) (hl:s.length≤100000):gA.l1 (mkS s) (n:Int) a (s.length:Int) (s.length:Int)=some ((n:Int),0,()):=by rw[gA.l1_eq,vC1 n h1 h2,←hs];simp(disch:=omega)only[ss,iE,gA.l5_eq]
theorem iD1 (n:Nat) (h1:1≤n) (h2:n≤2147483648):gA.f (mkS (durT n))=some ((n:Int),0,()):=by
 have l1:=dF 68 (show n/86400≤999999999 by omega);have l2:=dF 72 (show n%86400/3600≤999999999 by omega);have l3:=dF 77 (show n%86400/60%60≤999999999 by omega);have l4:=dF 83 (show n%86400%60≤999999999 by omega);have l5:=(fI (n/604800)).2 (by omega);have hne:durT n≠[]:=by
  unfold durT;split
  ·simp
  ·split <;> simp
 have h80:(durT n).getD 0 0=80:=by
  unfold durT;split
  ·rfl
  ·split <;> rfl
 obtain⟨s,hs⟩:∃s,s=durT n:=⟨_,rfl⟩
 have hlen:s.length≤60:=by
  rw[hs];unfold durT;split
  ·simp only[oH2,rH2];omega
  ·split
   ·simp only[oH2,rH2];omega
   ·simp only[oH2,rH2];omega
 rw[←hs]at hne h80 ⊢;have hp:0<s.length:=hK2.2 hne;have hne':mkS s≠mkS []:=fun e=>hne (by have:=congrArg B e;exact this)
 have q0:(⟨#[]⟩:ByteArray)=mkS []:=rfl;have hm:=zR1 s 0 0 0 hp (by omega) (.inl h80);rw[eI2]at hm;rw[gA.f_eq,q0,iE,dn hne',cond_false,szS,hm];have hend:=fun a=>jD2 s n a h1 h2 hs (by omega)
 by_cases c:n%604800=0
 ·have e:s=[80]++(Lib.decDigits (n/604800)++87::[]):=by rw[hs];unfold durT;rw[if_pos c,dI2]
  have hq:n/604800*604800=n:=by omega
  have:=yI1 [80] (Lib.decDigits (n/604800)) [] 87 0 604800 (by rw[←e];omega) (nE1 _) (dP1 _) (by omega) (.inl ⟨rfl,rfl⟩) (by omega) (by rw[rM];omega);rw[←e,rM,hq,wJ2]at this;have hl:([80]:List UInt8).length+(Lib.decDigits (n/604800)).length+1=s.length:=by rw[e];simp;omega
  rw[hl]at this;exact this.trans (hend _)
 ·by_cases c2:n%86400=0
  ·have e:s=[80]++(part (n/86400) 68++[]):=by rw[hs];unfold durT;rw[if_neg c,if_pos c2,bI2]
   have:=pU [80] [] (n/86400) 68 0 86400 (by rw[←e];omega) (by omega) (.inr (.inl ⟨rfl,rfl⟩)) (by omega) (by omega);have hq:0+n/86400*86400=n:=by omega
   rw[←e,hq]at this;have hl:([80]++part (n/86400) 68).length=s.length:=by rw[e,bI2]
   rw[hl]at this;exact this.trans (hend _)
  ·obtain⟨a,ha⟩:∃a,a=n/86400:=⟨_,rfl⟩
   obtain⟨b,hb⟩:∃b,b=n%86400/3600:=⟨_,rfl⟩
   obtain⟨d,hd⟩:∃d,d=n%86400/60%60:=⟨_,rfl⟩
   obtain⟨f,hf⟩:∃f,f=n%86400%60:=⟨_,rfl⟩
   have hn:n=a*86400+b*3600+d*60+f*1:=by omega
   have e:s=[80]++part a 68++([84]++part b 72++part d 77++part f 83):=by rw[hs];unfold durT;rw[if_neg c,if_neg c2,ha,hb,hd,hf]
   rw[←ha]at l1;rw[←hb]at l2;rw[←hd]at l3;rw[←hf]at l4;have e1:s=[80]++(part a 68++([84]++part b 72++part d 77++part f 83)):=by rw[e];simp
   have e2:s=([80]++part a 68++[84])++(part b 72++(part d 77++part f 83)):=by rw[e];simp
   have e3:s=([80]++part a 68++[84]++part b 72)++(part d 77++part f 83):=by rw[e];simp
   have e4:s=([80]++part a 68++[84]++part b 72++part d 77)++(part f 83++[]):=by rw[e];simp
   have t1:=pU [80] ([84]++part b 72++part d 77++part f 83) a 68 0 86400 (by rw[←e1];omega) (by omega) (.inr (.inl ⟨rfl,rfl⟩)) (by omega) (by omega);have t2:=pU ([80]++part a 68++[84]) (part d 77++part f 83) b 72 (0+a*86400) 3600 (by rw[←e2];omega) (by omega) (.inr (.inr (.inl ⟨rfl,rfl⟩))) (by omega) (by omega);have t3:=pU ([80]++part a 68++[84]++part b 72) (part f 83) d 77 (0+a*86400+b*3600) 60 (by rw[←e3];omega) (by omega) (.inr (.inr (.inr (.inl ⟨rfl,rfl⟩)))) (by omega) (by omega);have t4:=pU ([80]++part a 68++[84]++part b 72++part d 77) [] f 83 (0+a*86400+b*3600+d*60) 1 (by rw[←e4];omega) (by omega) (.inr (.inr (.inr (.inr ⟨rfl,rfl⟩)))) (by omega) (by omega);rw[←e1]at t1;rw[←e2]at t2;rw[←e3]at t3;rw[←e4]at t4;have hq:0+a*86400+b*3600+d*60+f*1=n:=by omega
   have hl:([80]++part a 68++[84]++part b 72++part d 77++part f 83).length=s.length:=by rw[e4,bI2]
   rw[hq,hl]at t4
   have hm2:=zR1 s ((0+a*86400:Nat):Int) (([80]++part a 68).length:Int) ([80]++part a 68).length (by rw[e];simp only[oH2,rH2];omega) (by omega) (.inr (by
    rw[e,qH2,lI2 (yH2 _),Nat.sub_self]
    rfl))
   have hl2:([80]++part a 68).length+1=([80]++part a 68++[84]).length:=by simp
   rw[hl2]at hm2;exact t1.trans (hm2.trans (t2.trans (t3.trans (t4.trans (hend _)))))
theorem eF2 (n:Int) (b:Bool):gA.l5 n b=some (if b=true then 0 else n,if b=true then 4 else 0,()):=by rw[gA.l5_eq];cases b <;> rfl
abbrev Mt :Type:=Int×Int×Int×Bool×Rl×List Int×List Int×Unit
def innP (t:Int):Prop:= -62104060800≤t∧t<253370764800
theorem yF2 :xF.f 2=some (-62104060800,()):=by have h:=tH 2 1 1 0 0 0 (-718797) ⟨by decide,by decide⟩ (by omega) (by omega) (by omega);rw[show(-718797:Int)*86400+3600*0+60*0+0 = -62104060800 by omega]at h;rw[xF.f_eq,h];rfl
theorem qG2 :xF.f 9999=some (253370764800,()):=by have h:=tH 9999 1 1 0 0 0 2932532 ⟨by decide,by decide⟩ (by omega) (by omega) (by omega);rw[show(2932532:Int)*86400+3600*0+60*0+0=253370764800 by omega]at h;rw[xF.f_eq,h];rfl
theorem jZ (t:Int):oE (wJ.f t) (innP t):=by
 unfold innP;rw[wJ.f_eq,yF2,qG2];by_cases c:t ≥ -62104060800
 ·simp(disch:=omega)only[ss];exact⟨_,rfl,by rw[decide_eq_true_eq];omega⟩
 ·simp(disch:=omega)only[ss];exact⟨_,rfl,by simp;omega⟩
def okM (l:List Int) (j:Nat):Prop:=innP (l.getD j 0)∧adjI l j
def mP (l:List Int):Prop:=(∀j,j<l.length→okM l j)∧l.length≤64
theorem kX1 (l:List Int) (hl:l.length≤1000000):∀(k i:Nat),l.length-i=k→i≤l.length →
  oE (jC.l1 l l (l.length:Int) (i:Int)) ((∀j,i≤j→j<l.length→okM l j)∧l.length≤64):=by
 intro k
 induction k with
 | zero=>
  intro i hk hil;rw[jC.l1_eq];simp(disch:=omega)only[ss];refine⟨_,rfl,?_⟩;rw[decide_eq_true_eq];exact⟨fun h=>⟨fun j h1 h2=>by omega,by omega⟩,fun h=>by omega⟩
 | succ k ih=>
  intro i hk hil;have hlt:i<l.length:=by omega
  have step:okM l i→oE (jC.l2 l l (l.length:Int) (i:Int) false) ((∀j,i≤j→j<l.length→okM l j)∧l.length≤64):=fun h=>by
   rw[jC.l2_eq];simp(disch:=omega)only[ss];refine(ih (i+1) (by omega) (by omega)).iff ⟨fun q=>⟨fun j h1 h2=>?_,q.2⟩,fun q=>⟨fun j h1 h2=>q.1 j (by omega) h2,q.2⟩⟩;by_cases e:j=i
   ·subst e;exact h
   ·exact q.1 j (by omega) h2
  have stop:¬okM l i→oE (jC.l2 l l (l.length:Int) (i:Int) true) ((∀j,i≤j→j<l.length→okM l j)∧l.length≤64):=fun h=>by rw[jC.l2_eq,cond_true];exact⟨false,rfl,by simp;intro q;exact absurd (q i (yH2 _) hlt) h⟩
  obtain⟨b,hb,hi⟩:=jZ (l.getD i 0);rw[jC.l1_eq];simp(disch:=omega)only[ss,hb]
  cases b with
  | false=> 
   rw[zJ2,cond_true];exact stop fun q=>by have:=hi.2 q.1;cases this
  | true=>
   have hin:=hi.1 rfl;rw[cJ2,cond_false];by_cases h0:i=0
   ·simp(disch:=omega)only[ss];exact step ⟨hin,fun q=>by omega⟩
   ·simp(disch:=omega)only[ss];by_cases c:l.getD i 0≤l.getD (i-1) 0
    ·rw[dp c];exact stop fun q=>by have:=q.2 (by omega);omega
    ·rw[dn c];exact step ⟨hin,fun _=>by omega⟩
theorem eY (l:List Int) (hl:l.length≤1000000):oE (jC.f l) (mP l):=by have:=kX1 l hl _ 0 rfl (uH2 _);rw[eI2]at this;rw[jC.f_eq];exact this.iff ⟨fun q=>⟨fun j hj=>q.1 j (uH2 _) hj,q.2⟩,fun q=>⟨fun j _ hj=>q.1 j hj,q.2⟩⟩
theorem qH1 (s:List UInt8) (hs:s.length≤1000000):∃n b,oB.f (mkS s)=some (n,b,()):=by
 have key:∀(k i:Nat) (v:Int),s.length-i=k→i≤s.length → ∃n b,oB.l1 (mkS s) v (s.length:Int) (i:Int)=some (n,b,()):=by
  intro k
  induction k with
  | zero=>
   intro i v hk hi;rw[oB.l1_eq];simp(disch:=omega)only[ss];exact⟨_,_,rfl⟩
  | succ k ih=>
   intro i v hk hi;have hlt:i<s.length:=by omega
   have hbt:bt (mkS s) (i:Int)=((s.getD i 0).toNat:Int):=wH (mkS s) i;rw[oB.l1_eq];by_cases c1:((s.getD i 0).toNat:Int)<48
   ·simp(disch:=omega)only[ss,szS,hbt,oB.l2_eq];exact⟨_,_,rfl⟩
   ·by_cases c2:((s.getD i 0).toNat:Int)>57
    ·simp(disch:=omega)only[ss,szS,hbt,oB.l2_eq];exact⟨_,_,rfl⟩
    ·simp(disch:=omega)only[ss,szS,hbt,oB.l2_eq];exact ih (i+1) _ (by omega) (by omega)
 have:=key _ 0 0 rfl (uH2 _);rw[eI2]at this;rw[oB.f_eq,szS];exact this
theorem wE2 (n:Int) (h:¬(1≤n∧n≤2147483648)):mD.f n=some (mkS [],1,()):=by
 rw[mD.f_eq];by_cases c:n<1
 ·rw[dp c,cond_true,mD.l1_eq];rfl
 ·rw[dn c,cond_false,dp (by omega),mD.l1_eq];rfl
def durR (s:List UInt8) (r:Option (Int×Int×Unit)):Prop:=∃n e,r=some (n,e,())∧(e=0 → ∃m:Nat,n=(m:Int)∧1≤m∧m≤2147483648∧s=durT m)
theorem aA2 (s:List UInt8) (hs:s.length≤100000):∀(k i a:Nat) (tot:Int),s.length-i=k→a≤i→i≤s.length→durR s (gA.l1 (mkS s) tot (a:Int) (s.length:Int) (i:Int)):=by
 intro k
 induction k with
 | zero=>
  intro i a tot hk ha hi;have e:i=s.length:=by omega
  subst e;rw[gA.l1_eq];by_cases c:1≤tot∧tot≤2147483648
  ·obtain⟨m,rfl⟩:=wI2 (show 0≤tot by omega);rw[vC1 m (by omega) (by omega)];simp(disch:=omega)only[ss,iE,eF2];by_cases q:mkS (durT m)=mkS s
   ·rw[dp q];exact⟨_,_,rfl,fun _=>⟨m,rfl,by omega,by omega,(congrArg B q).symm⟩⟩
   ·rw[dn q];exact⟨_,_,rfl,fun h=>by simp at h⟩
  ·rw[wE2 tot c];simp(disch:=omega)only[ss,eF2];exact⟨_,_,rfl,fun h=>by simp at h⟩
 | succ k ih=>
  intro i a tot hk ha hi;have hlt:i<s.length:=by omega
  have hbt:bt (mkS s) (i:Int)=((s.getD i 0).toNat:Int):=wH (mkS s) i;have h3:∀unit:Int,durR s (gA.l3 (mkS s) tot (a:Int) (i:Int) unit (s.length:Int) (i:Int)):=by
   intro unit;have hx:(mkS s).extract a i=mkS ((s.drop a).take (i-a)):=ex_S s a i;obtain⟨n,b,hn⟩:=qH1 ((s.drop a).take (i-a)) (by rw[cI2,qI2];omega);have stop:durR s (some (0,4,())):=⟨_,_,rfl,fun h=>by omega⟩
   have go:∀x,durR s (gA.l4 (mkS s) tot (i:Int) unit n (s.length:Int) (i:Int) x):=by
    intro x;rw[gA.l4_eq]
    cases x with
    | true=>exact stop
    | false=>
     simp(disch:=omega)only[ss];exact ih (i+1) (i+1) _ (by omega) (by omega) (by omega)
   rw[gA.l3_eq];simp(disch:=omega)only[ss,szS,hx,hn]
   cases b with
   | false=>exact go true
   | true=>
    rw[cJ2,cond_false];by_cases c:((i:Int)-(a:Int))<1
    ·rw[dp c];exact go true
    ·rw[dn c];exact go _
  have h2:∀x,durR s (gA.l2 (mkS s) tot (a:Int) (i:Int) (s.length:Int) (i:Int) x):=by
   intro x;rw[gA.l2_eq]
   cases x with
   | true=>
    simp(disch:=omega)only[ss];exact ih (i+1) (i+1) _ (by omega) (by omega) (by omega)
   | false=>
    simp(disch:=omega)only[ss];exact ih (i+1) a _ (by omega) (by omega) (by omega)
  have two:∀(p:Prop) [Decidable p] {x y:Option (Int×Int×Unit)},durR s x→durR s y→durR s (bif decide p then x else y):=by
   intro p _ x y hx hy;by_cases c:p
   ·rw[dp c];exact hx
   ·rw[dn c];exact hy
  rw[gA.l1_eq];simp(disch:=omega)only[ss,szS,hbt];exact two _ (h3 _) (two _ (h3 _) (two _ (h3 _) (two _ (h3 _) (two _ (h3 _) (two _ (h2 _) (h2 _))))))
theorem zI1 (s:List UInt8) (hs:s.length≤100000):durR s (gA.f (mkS s)):=by
 have q0:(⟨#[]⟩:ByteArray)=mkS []:=rfl;rw[gA.f_eq,q0,iE,szS];by_cases c:mkS s=mkS []
 ·rw[dp c];exact⟨_,_,rfl,fun h=>by omega⟩
 ·rw[dn c];have:=aA2 s hs _ 0 0 0 rfl (yH2 _) (uH2 _);rw[eI2]at this;exact this
theorem nC2 (X:List (List UInt8)) (hX:X.length≤100000) (hs:∀s∈X,s.length≤1000000):∀(k i:Nat) (y:List Int),X.length-i=k→i≤X.length→y.length=i → ∃l b,qA.l1 (X.map mkS) (X.length:Int) (i:Int) y=some (l,b,())∧l.length≤X.length:=by
 have hlim:uC=17179869184:=rfl;intro k
 induction k with
 | zero=>
  intro i y hk hi hy;rw[qA.l1_eq];simp(disch:=omega)only[ss];exact⟨_,_,rfl,by omega⟩
 | succ k ih=>
  intro i y hk hi hy;have hlt:i<X.length:=by omega
  have hg:(X.map mkS).getD i ByteArray.empty=mkS (X.getD i []):=by rw[qH2,mJ2,qH2,aI2 hlt];rfl
  obtain⟨t,e,h1,_⟩:=jH (X.getD i []) (hs _ (iD [] hlt));have hm:(X.map mkS).length=X.length:=tH2 ..;have go:∀b,∃l c,qA.l2 t (X.map mkS) (X.length:Int) (i:Int) b y=some (l,c,())∧l.length≤X.length:=by
   intro b;rw[qA.l2_eq]
   cases b with
   | true=>exact⟨_,_,rfl,uH2 _⟩
   | false=>
    simp(disch:=omega)only[ss,qA.l3_eq,hy,rH2,hlim];exact ih (i+1) _ (by omega) (by omega) (by rw[oH2,hy];rfl)
  rw[qA.l1_eq];simp(disch:=omega)only[ss,hm,hg,h1];by_cases c1:e=0
  ·simp(disch:=omega)only[ss];by_cases c2:(i:Int)≥64
   ·rw[dp c2];exact go true
   ·rw[dn c2];by_cases c3:(i:Int)>0
    ·simp(disch:=omega)only[ss,hy];exact go _
    ·simp(disch:=omega)only[ss];exact go _
  ·rw[dn c1];exact go true
theorem vT1 (s:List UInt8) (hs:s.length≤50000):∃l b,qA.f (mkS s)=some (l,b,())∧l.length≤50001:=by have hS:pD.f (mkS s) ⟨#[44]⟩=some ((segs 44 s).map mkS,()):=nK (c:=44) _ (by omega);have hsl:=gM 44 s;obtain⟨l,b,h1,h2⟩:=nC2 (segs 44 s) (by omega) (fun t ht=>by have:=hsl.2 t ht;omega) _ 0 [] rfl (uH2 _) rfl;rw[eI2]at h1;rw[qA.f_eq,hS,pH2,tH2];exact⟨l,b,h1,by omega⟩
theorem xJ1 (l:List Int) (h:l.length≤64) (hu:∀t∈l,-62135596800≤t∧t≤253402300799):tF.f l=some (mkS (jn 44 (l.map utx)),()):=by
 have hlim:uC=17179869184:=rfl;have hlen:(jn 44 (l.map utx)).length≤2000:=by
  have h1:=cX1 44 (l.map utx)
  have h2:=yD1 15 (l.map utx) fun s hs=>by obtain⟨t,ht,rfl⟩:=pI2.1 hs;exact(zN t (hu t ht)).1
  rw[tH2]at h1 h2;omega
 have hJ:=fQ1 (l.map utx) (by rw[tH2];omega) (by omega);have key:∀(k i:Nat),l.length-i=k→i≤l.length→tF.l1 l (l.length:Int) (i:Int) (((l.take i).map utx).map mkS)=some (mkS (jn 44 (l.map utx)),()):=by
  intro k
  induction k with
  | zero=>
   intro i hk hil;have e:i=l.length:=by omega
   subst e;rw[tF.l1_eq,uJ2,hJ];simp(disch:=omega)only[ss]
  | succ k ih=>
   intro i hk hil;have hlt:i<l.length:=by omega
   have hI:=(zN _ (hu _ (iD 0 hlt))).2.1;have:=ih (i+1) (by omega) (by omega);rw[tE 0 hlt,fI2,fI2]at this;have hl1:(((l.take i).map utx).map mkS).length=i:=by simp;omega
   rw[tF.l1_eq];simp(disch:=omega)only[ss,hI,hl1,rH2,hlim];exact this
 have:=key _ 0 rfl (uH2 _);rw[eI2]at this;rw[tF.f_eq];exact this
def mayM (m:Mt):Prop:=0≤m.1∧m.1<16∧innP m.2.1∧1≤m.2.2.1∧m.2.2.1≤2678400∧mP m.2.2.2.2.2.1∧mP m.2.2.2.2.2.2.1 ∧
 (m.2.2.2.1=true→wA.f m.2.2.2.2.1=some (true,()))∧(m.2.2.2.1=false→m.2.2.2.2.1=zR)
def jG (m:Mt):Prop:=qM m.2.2.2.2.1∧m.2.2.2.2.2.1.length≤1000000∧m.2.2.2.2.2.2.1.length≤1000000
theorem mE2 (m:Mt):∃b,lF.f m=some (b,())∧(b=true→jG m):=by
 obtain⟨b,h1,h2⟩:=dW1 m.2.2.2.2.1;rw[lF.f_eq,h1]
 cases b with
 | false=>exact⟨false,rfl,fun h=>by cases h⟩
 | true=>
  simp(disch:=omega)only[ss];by_cases c:(m.2.2.2.2.2.1.length:Int)≤400
  ·rw[dp c];refine⟨_,rfl,fun h=>⟨h2 rfl,by omega,?_⟩⟩;rw[decide_eq_true_eq]at h;omega
  ·rw[dn c];exact⟨_,rfl,fun h=>by cases h⟩
theorem nQ1 (m:Mt) (h:jG m):oE (vD.f m) (mayM m):=by
 obtain⟨z,st,du,rc,r,da,ex,⟨⟩⟩:=m;obtain⟨h1,h2,h3⟩:=h;dsimp only at h1 h2 h3
 have stop:¬mayM (z,st,du,rc,r,da,ex,())→oE (vD.l1 true (z,st,du,rc,r,da,ex,())) (mayM (z,st,du,rc,r,da,ex,())):=fun q=>by rw[vD.l1_eq,cond_true];exact⟨false,rfl,by simp[q]⟩
 obtain⟨b1,g1,k1⟩:=jZ st;obtain⟨b2,g2,k2⟩:=eY da h2;obtain⟨b3,g3,k3⟩:=eY ex h3;unfold mayM at stop ⊢;dsimp only at stop ⊢;rw[vD.f_eq];dsimp only;by_cases c1:z<0
 ·rw[dp c1];exact stop fun q=>by omega
 rw[dn c1,cond_false];by_cases c2:z≥16
 ·rw[dp c2];exact stop fun q=>by omega
 rw[dn c2,cond_false,g1]
 cases b1 with
 | false=>exact stop fun q=>by have:=k1.2 q.2.2.1;cases this
 | true=>
 simp(disch:=omega)only[ss];by_cases c3:du<1
 ·rw[dp c3];exact stop fun q=>by omega
 rw[dn c3,cond_false];by_cases c4:du>2678400
 ·rw[dp c4];exact stop fun q=>by omega
 rw[dn c4,cond_false,g2]
 cases b2 with
 | false=>exact stop fun q=>by have:=k2.2 q.2.2.2.2.2.1;cases this
 | true=>
 simp(disch:=omega)only[ss,g3]
 cases b3 with
 | false=>exact stop fun q=>by have:=k3.2 q.2.2.2.2.2.2.1;cases this
 | true=>
 rw[cJ2,vD.l1_eq,cond_false];dsimp only;have base:0≤z∧z<16∧innP st∧1≤du∧du≤2678400∧mP da∧mP ex:=⟨by omega,by omega,k1.1 rfl,by omega,by omega,k2.1 rfl,k3.1 rfl⟩
 obtain⟨i1,i2,i3,i4,i5,i6,i7⟩:=base
 cases rc with
 | true=>
  obtain⟨b,hb⟩:=vA1 r h1;rw[cond_true,hb];refine⟨b,rfl,fun e=>⟨i1,i2,i3,i4,i5,i6,i7,(fun _=>by rw[←e]),(fun e=>by cases e)⟩,fun q=>?_⟩;have:=q.2.2.2.2.2.2.2.1 rfl;exact congrArg Prod.fst (sI2 this)
 | false=>
  obtain⟨b,hb,hq⟩:=dZ r zR h1;have hb:bE.f r (0,0,0,0,0,false,[],[],[],[],[],[],[],[],[],())=some (b,()):=hb;rw[cond_false,hb];exact⟨b,rfl,fun e=>⟨i1,i2,i3,i4,i5,i6,i7,(fun e=>by cases e),fun _=>hq.1 e⟩,fun q=>hq.2 (q.2.2.2.2.2.2.2.2 rfl)⟩
def F0 :List UInt8:=[68,84,83,84,65,82,84,59,84,90,73,68,61]
def F1 :List UInt8:=[68,85,82,65,84,73,79,78,58]
def F2 :List UInt8:=[82,82,85,76,69,58]
def F3 :List UInt8:=[82,68,65,84,69,58]
def F4 :List UInt8:=[69,88,68,65,84,69,58]
theorem fr0 :eD.f 0=some (mkS F0,()):=by rw[eD.f_eq];rfl
theorem fr1 :eD.f 1=some (mkS F1,()):=by rw[eD.f_eq];rfl
theorem fr2 :eD.f 2=some (mkS F2,()):=by rw[eD.f_eq];rfl
theorem fr3 :eD.f 3=some (mkS F3,()):=by rw[eD.f_eq];rfl
theorem fr4 :eD.f 4=some (mkS F4,()):=by rw[eD.f_eq];rfl
noncomputable def v0 (m:Mt):List UInt8:=Lib.decDigits m.1.toNat++58::utx m.2.1
noncomputable def optL (b:Bool) (l:List UInt8):List (List UInt8):=bif b then [l]else []
noncomputable def yM (m:Mt):List (List UInt8):=
 [F0++v0 m,F1++durT m.2.2.1.toNat]++optL m.2.2.2.1 (F2++jn 59 (pts m.2.2.2.2.1))++optL (decide (0<m.2.2.2.2.2.1.length)) (F3++jn 44 (m.2.2.2.2.2.1.map utx))++optL (decide (0<m.2.2.2.2.2.2.1.length)) (F4++jn 44 (m.2.2.2.2.2.2.1.map utx))
theorem yN {l:List Int} (h:mP l):l.length≤64∧(∀j,j<l.length→adjI l j) ∧ ∀t∈l,innP t:=by refine⟨h.2,fun j hj=>(h.1 j hj).2,fun t ht=>?_⟩;obtain⟨j,hj,rfl⟩:=zK2 ht;have:=(h.1 j hj).1;rwa[qH2,aI2 hj]at this
theorem oI {t:Int} (h:innP t): -62135596800≤t∧t≤253402300799:=by unfold innP at h;omega
theorem wH1 (n:Nat) (h:n≤2147483648):(durT n).length≤60:=by
 have l1:=dF 68 (show n/86400≤999999999 by omega);have l2:=dF 72 (show n%86400/3600≤999999999 by omega);have l3:=dF 77 (show n%86400/60%60≤999999999 by omega);have l4:=dF 83 (show n%86400%60≤999999999 by omega);have l5:=(fI (n/604800)).2 (by omega);unfold durT;split
 ·simp only[oH2,rH2];omega
 ·split
  ·simp only[oH2,rH2];omega
  ·simp only[oH2,rH2];omega
theorem jM (l:List Int) (h:l.length≤64) (hu:∀t∈l,-62135596800≤t∧t≤253402300799):(jn 44 (l.map utx)).length≤1100:=by
 have h1:=cX1 44 (l.map utx)
 have h2:=yD1 15 (l.map utx) fun s hs=>by obtain⟨t,ht,rfl⟩:=pI2.1 hs;exact(zN t (hu t ht)).1
 rw[tH2]at h1 h2;omega
theorem eR1 (m:Mt) (hs:jG m) (hM:mayM m):mC.f m=(uB.f ((yM m).map mkS)).bind fun t=>some t:=by
 obtain⟨b,hb,hb2⟩:=nQ1 m hs;have hb1:b=true:=hb2.2 hM;subst hb1;obtain⟨z,st,du,rc,r,da,ex,⟨⟩⟩:=m;obtain⟨s1,s2,s3⟩:=hs;obtain⟨m1,m2,m3,m4,m5,m6,m7,m8,m9⟩:=hM;dsimp only at s1 s2 s3 m1 m2 m3 m4 m5 m6 m7 m8 m9;have hlim:uC=17179869184:=rfl;obtain⟨d1,d2,d3⟩:=yN m6;obtain⟨e1,e2,e3⟩:=yN m7;obtain⟨n,rfl⟩:=wI2 (show 0≤du by omega);obtain⟨zn,rfl⟩:=wI2 m1;have u0:=zN st (oI m3);have hda:=xJ1 da d1 fun t ht=>oI (d3 t ht)
 have hex:=xJ1 ex e1 fun t ht=>oI (e3 t ht)
 have lda:=jM da d1 fun t ht=>oI (d3 t ht)
 have lex:=jM ex e1 fun t ht=>oI (e3 t ht)
 have hdt:=vC1 n (by omega) (by omega);have ldt:=wH1 n (by omega);have hI:=gP1 zn (by omega);have lD:=(fI zn).2 (by omega);have q58:(⟨#[58]⟩:ByteArray)=mkS [58]:=rfl;have lF0:F0.length=13:=rfl;have lF1:F1.length=9:=rfl;have lF2:F2.length=6:=rfl;have lF3:F3.length=6:=rfl;have lF4:F4.length=7:=rfl;have k3:∀L:List (List UInt8),mC.l3 (L.map mkS)=(uB.f (L.map mkS)).bind fun t=>some t:=fun L=>by rw[mC.l3_eq]
 have k2:∀L:List (List UInt8),L.length≤10→mC.l2 ((zn:Int),st,(n:Int),rc,r,da,ex,()) (L.map mkS)=(uB.f ((L++optL (decide (0<ex.length)) (F4++jn 44 (ex.map utx))).map mkS)).bind fun t=>some t:=by
  intro L hL;have hml:(L.map mkS).length=L.length:=tH2 ..;rw[mC.l2_eq];dsimp only;by_cases c:(ex.length:Int)>0
  ·have ho:optL (decide (0<ex.length)) (F4++jn 44 (ex.map utx))=[F4++jn 44 (ex.map utx)]:=by rw[dp (by omega)];rfl
   have:=k3 (L++[F4++jn 44 (ex.map utx)]);rw[fI2]at this;rw[ho,fI2];simp(disch:=omega)only[ss,fr4,hex,szS,lF4,xD,hml,rH2,hlim];exact this
  ·have ho:optL (decide (0<ex.length)) (F4++jn 44 (ex.map utx))=[]:=by rw[dn (by omega)];rfl
   rw[ho,bI2,dn c,cond_false];exact k3 L
 have k1:∀L:List (List UInt8),L.length≤9→mC.l1 ((zn:Int),st,(n:Int),rc,r,da,ex,()) (L.map mkS)=(uB.f ((L++optL (decide (0<da.length)) (F3++jn 44 (da.map utx))++optL (decide (0<ex.length)) (F4++jn 44 (ex.map utx))).map mkS)).bind fun t=>some t:=by
  intro L hL;have hml:(L.map mkS).length=L.length:=tH2 ..;rw[mC.l1_eq];dsimp only;by_cases c:(da.length:Int)>0
  ·have ho:optL (decide (0<da.length)) (F3++jn 44 (da.map utx))=[F3++jn 44 (da.map utx)]:=by rw[dp (by omega)];rfl
   have:=k2 (L++[F3++jn 44 (da.map utx)]) (by rw[oH2,rH2];omega);rw[fI2]at this;rw[ho];simp(disch:=omega)only[ss,fr3,hda,szS,lF3,xD,hml,rH2,hlim];exact this
  ·have ho:optL (decide (0<da.length)) (F3++jn 44 (da.map utx))=[]:=by rw[dn (by omega)];rfl
   rw[ho,bI2,dn c,cond_false];exact k2 L (by omega)
 have hv:F0++Lib.decDigits zn++[58]++utx st=F0++v0 ((zn:Int),st,(n:Int),rc,r,da,ex,()):=by unfold v0;simp
 have hu0:=u0.1;rw[mC.f_eq,hb];dsimp only
 cases rc with
 | true=>
  obtain⟨p1,p2⟩:=oV r s1 (m8 rfl);have:=k1 [F0++v0 ((zn:Int),st,(n:Int),true,r,da,ex,()),F1++durT n,F2++jn 59 (pts r)] (by simp);simp(disch:=omega)only[ss,u0.2.1,hdt,fr0,fr1,fr2,hI,p1,q58,szS,xD,oH2,lF0,lF1,lF2,rH2,zH2,hI2,hlim,hv];exact this
 | false=>
  have:=k1 [F0++v0 ((zn:Int),st,(n:Int),false,r,da,ex,()),F1++durT n] (by simp);simp(disch:=omega)only[ss,u0.2.1,hdt,fr0,fr1,hI,q58,szS,xD,oH2,lF0,lF1,rH2,hv];exact this
theorem pL1 (s:List UInt8) (hs:s.length≤1000000):∃n t b,dE.f (mkS s)=some (n,t,b,()):=by
 rw[dE.f_eq]
 have fin:∀(a b:List UInt8) (q:Bool),a.length≤1000000→b.length≤1000000→aE.f (mkS s) ⟨#[58]⟩=some (mkS a,mkS b,q,()) → ∃n t b,((aE.f (mkS s) ⟨#[58]⟩).bind fun t1=>(vG.f t1.1).bind fun t2=>(iB.f t1.2.1).bind fun t3=>bif t1.2.2.1 then(bif t2.2.1 then((kD.f t2.1).bind fun t4=>bif(t4.1.toList==t1.1.toList)then((qE.f t1.1 ⟨#[45]⟩).bind fun t5=>bif decide ((t5.1.size:Int)≤9)then(some (t2.1,t3.1,decide (t3.2.1=0),()))else(some (t2.1,t3.1,false,())))else(some (t2.1,t3.1,false,())))else(some (t2.1,t3.1,false,())))else(some (t2.1,t3.1,false,())))=some (n,t,b,()):=by
  intro a b q ha hb hC;have hr:=zB1 (mkS a);have hA:=wT a ha;have hI:=rJ _ hr.1 hr.2;have hT:=yR a ha;obtain⟨t,e,hp,_⟩:=jH b hb;rw[hC];simp only[pH2,hA,hp]
  cases q with
  | false=>exact⟨_,_,_,rfl⟩
  | true=>
   rw[cond_true]
   cases(dK (mkS a)).2 with
   | false=>exact⟨_,_,_,rfl⟩
   | true=>
    rw[cond_true,hI];simp only[pH2];cases((mkS (Lib.itoa (dK (mkS a)).1)).toList==(mkS a).toList)with
    | false=>exact⟨_,_,_,rfl⟩
    | true=>
     rw[cond_true,hT];simp only[pH2];by_cases c:(((mkS (if a.head?=some 45 then a.tail else a)).size:Nat):Int)≤9
     ·rw[dp c];exact⟨_,_,_,rfl⟩
     ·rw[dn c];exact⟨_,_,_,rfl⟩
 rcases iI (c:=58) (l:=s)with h | ⟨a,b,rfl,ha⟩
 ·exact fin s [] false hs (uH2 _) (yT (s:=mkS s) (c:=58) h)
 ·have hl:(a++58::b).length=a.length+b.length+1:=by simp;omega
  exact fin a b true (by omega) (by omega) (nT (c:=58) (by omega) ha)
def Fr :Nat→List UInt8
 | 0=>F0
 | 1=>F1
 | 2=>F2
 | 3=>F3
 | _=>F4
theorem fr_k (k:Nat) (hk:k<5):eD.f (k:Int)=some (mkS (Fr k),()):=by
 have:k=0∨k=1∨k=2∨k=3∨k=4:=by omega
 rcases this with rfl | rfl | rfl | rfl | rfl
 ·exact fr0
 ·exact fr1
 ·exact fr2
 ·exact fr3
 ·exact fr4
def pf (F s:List UInt8):Bool:=decide (s.take F.length=F)
theorem xM (s F:List UInt8):nD.f (mkS s) (mkS F)=some (pf F s,()):=by
 unfold pf;rw[nD.f_eq,aD.f_eq,szS,szS];by_cases c:(s.length:Int)≥(F.length:Int)
 ·have e:(mkS s).extract 0 F.length=mkS (s.take F.length):=yH (by rw[dN,B_mk,B_mk]);have hd:(mkS (s.take F.length)=mkS F)↔s.take F.length=F:=⟨fun h=>congrArg B h,fun h=>by rw[h]⟩
  simp(disch:=omega)only[ss,iE,e];rw[decide_eq_decide.2 hd]
 ·rw[dn c,cond_false,dn (fun h=>c (by have:=congrArg List.length h;rw[cI2]at this;omega))];rfl
theorem cC1 (k:Nat) (v:List UInt8):pf (Fr k) (Fr k++v)=true:=by unfold pf;rw[aK2];exact dp rfl
theorem cA2 (j k:Nat) (hj:j<5) (hk:k<5) (h:j≠k) (v:List UInt8):pf (Fr j) (Fr k++v)=false:=by
 have a:j=0∨j=1∨j=2∨j=3∨j=4:=by omega
 have b:k=0∨k=1∨k=2∨k=3∨k=4:=by omega
 unfold pf;refine dn fun e=>?_
 have e2:=congrArg (List.take 2) e;rcases a with rfl | rfl | rfl | rfl | rfl <;> rcases b with rfl | rfl | rfl | rfl | rfl <;> first | exact h rfl | (simp[Fr,F0,F1,F2,F3,F4]at e2)
abbrev zM :Mt:=(0,0,0,false,zR,[],[],())
abbrev Rs :Type:=Option (Mt×Int×Int×Unit)
def bad9 (i:Int):Rs:=some (zM,i,4,())
noncomputable def QA (X:List ByteArray) (nx i:Int) (y:Mt):Rs:=lA.l1a X nx X (X.length:Int) i 0 0 0 false 0 0 0 0 0 false y
noncomputable def QB (X:List ByteArray) (s:ByteArray) (nx i:Int) (y:Mt):Rs:=lA.l2a X i s nx X (X.length:Int) i 0 0 0 false 0 0 0 0 0 false y
noncomputable def QC (X:List ByteArray) (nx i:Int) (b:Bool) (y:Mt):Rs:=bif b then bad9 i else QA X (nx+1) (i+1) y
theorem rE2 (X:List ByteArray) (nx i:Nat) (b:Bool) (y:Mt) (h:nx<10) (h2:i<1000000):lA.l5a X (i:Int) (nx:Int) X (X.length:Int) (i:Int) b 0 0 0 false 0 0 0 0 0 false y=QC X nx i b y:=by
 rw[lA.l5a_eq];unfold QC QA bad9
 cases b with
 | true=>rfl
 | false=>simp(disch:=omega)only[ss]
theorem gK1 (X:List ByteArray) (s:List UInt8) (k i:Nat) (y:Mt) (hk:k<5) (hi:i<1000000) (hp:pf (Fr k) s=true):
  QB X (mkS s) k i y=(rD.f y (k:Int) (mkS (s.drop (Fr k).length))).bind fun t=>QC X k i (!t.1) t.2.1:=by
 have hl:(Fr k).length≤s.length:=by unfold pf at hp;have:=congrArg List.length (of_decide_eq_true hp);rw[cI2]at this;omega
 have hx:(mkS s).extract (Fr k).length s.length=mkS (s.drop (Fr k).length):=yH (by rw[←szS s,zK,B_mk,B_mk]);unfold QB;rw[lA.l2a_eq];simp(disch:=omega)only[ss,fr_k k hk,xM,hp,lA.l3a_eq];rw[lA.l4a_eq];simp(disch:=omega)only[ss,fr_k k hk,xM,hp,szS,hx]
 congr 1
 funext t
 exact rE2 X k i _ _ (by omega) hi
theorem tB2 (X:List ByteArray) (s:List UInt8) (k i:Nat) (y:Mt) (hk:k<5) (h2:2≤k) (hp:pf (Fr k) s=false):QB X (mkS s) k i y=QB X (mkS s) ((k+1:Nat):Int) i y:=by
 unfold QB
 conv=>lhs;rw[lA.l2a_eq]
 simp(disch:=omega)only[ss,fr_k k hk,xM,hp,lA.l3a_eq];rfl
theorem zX1 (X:List ByteArray) (s:List UInt8) (i:Nat) (y:Mt):QB X (mkS s) 5 i y=bad9 i:=by unfold QB;rw[lA.l2a_eq];simp(disch:=omega)only[ss,lA.l3a_eq];rw[lA.l4a_eq];simp(disch:=omega)only[ss,lA.l5a_eq];rfl
theorem sB1 (X:List ByteArray) (s:List UInt8) (k i:Nat) (y:Mt) (hk:k<2) (hp:pf (Fr k) s=false):QB X (mkS s) k i y=bad9 i:=by unfold QB;rw[lA.l2a_eq];simp(disch:=omega)only[ss,fr_k k (by omega),xM,hp,lA.l3a_eq];rw[lA.l4a_eq];simp(disch:=omega)only[ss,fr_k k (by omega),xM,hp,lA.l5a_eq];rfl
theorem mU1 (X:List ByteArray) (s:List UInt8) (nx i:Nat) (y:Mt) (hi:i<X.length) (hX:X.getD i ByteArray.empty=mkS s):QA X nx i y=QB X (mkS s) nx i y:=by unfold QA QB;rw[lA.l1a_eq];simp(disch:=omega)only[ss,hX]
theorem qR1 (X:List ByteArray) (nx:Nat) (y:Mt):QA X nx X.length y=if nx≤1 then some (zM,(X.length:Int),2,())else(vD.f y).bind fun t=>bif !t.1 then some (zM,0,1,())else some (y,0,0,()):=by
 unfold QA;rw[lA.l1a_eq];by_cases c:nx≤1
 ·rw[if_pos c];simp(disch:=omega)only[ss];rfl
 ·rw[if_neg c];simp(disch:=omega)only[ss];rfl
theorem jI1 (X:List ByteArray) (s:List UInt8) (hi:0<X.length) (hX:X.getD 0 ByteArray.empty=mkS s):
  lA.l1 X 0 X (X.length:Int) 0 0 0 0 false 0 0 0 0 0 false 0 0 0 false 0 0 0 0 0 false=bif pf F0 s then(rD.f zM 0 (mkS (s.drop F0.length))).bind fun t=>QC X ((0:Nat):Int) ((0:Nat):Int) (!t.1) t.2.1 else bad9 0:=by
 have t0:(0:Int).toNat=0:=rfl;rw[lA.l1_eq];simp(disch:=omega)only[ss,t0,hX];rw[lA.l2_eq];simp(disch:=omega)only[ss,fr0,xM]
 cases hp:pf F0 s with
 | false=>
  simp(disch:=omega)only[ss,lA.l3_eq];rw[lA.l4_eq];simp(disch:=omega)only[ss,fr0,xM,hp,lA.l5_eq];rfl
 | true=>
  have hl:F0.length≤s.length:=by unfold pf at hp;have:=congrArg List.length (of_decide_eq_true hp);rw[cI2]at this;omega
  have hx:(mkS s).extract F0.length s.length=mkS (s.drop F0.length):=yH (by rw[←szS s,zK,B_mk,B_mk]);simp(disch:=omega)only[ss,lA.l3_eq];rw[lA.l4_eq];simp(disch:=omega)only[ss,fr0,xM,hp,szS,hx]
  congr 1
  funext t
  exact rE2 X 0 0 _ _ (by omega) (by omega)
theorem xC1 :qM zR:=by unfold qM wQ zR;simp
theorem iR (m:Mt) (k:Nat) (s:List UInt8) (hk:k<5) (hs:s.length≤4096) (hm:jG m):∃b m',rD.f m (k:Int) (mkS s)=some (b,m',())∧jG m':=by
 rw[rD.f_eq];obtain⟨h1',h2',h3'⟩:=hm;obtain⟨n1,t1,b1,h1⟩:=pL1 s (by omega);obtain⟨n2,e2,h2,_⟩:=zI1 s (by omega);obtain⟨l4,b4,h4,h5⟩:=vT1 s (by omega);have h3:∃R n e,yA.f (mkS s)=some (R,n,e,())∧qM R:=by
  rcases uG1 s (by omega)with⟨R,h,q,_⟩ | ⟨n,e,h,_⟩
  ·exact⟨_,_,_,h,tC2 q⟩
  ·exact⟨_,_,_,h,xC1⟩
 obtain⟨R,n3,e3,h3,hR⟩:=h3;have:k=0∨k=1∨k=2∨k=3∨k=4:=by omega
 rcases this with rfl | rfl | rfl | rfl | rfl
 ·simp(disch:=omega)only[ss,h1];exact⟨_,_,rfl,h1',h2',h3'⟩
 ·simp(disch:=omega)only[ss,h2];exact⟨_,_,rfl,h1',h2',h3'⟩
 ·simp(disch:=omega)only[ss,h3];exact⟨_,_,rfl,hR,h2',h3'⟩
 ·simp(disch:=omega)only[ss,h4];exact⟨_,_,rfl,h1',by show l4.length≤_;omega,h3'⟩
 ·simp(disch:=omega)only[ss,h4];exact⟨_,_,rfl,h1',h2',by show l4.length≤_;omega⟩
def Told (r:Rs):Prop:=∃q a e,r=some (q,a,e,())∧(e=0→a=0∧jG q∧vD.f q=some (true,()))∧(e≠0→q=zM)
theorem cQ (i:Int):Told (bad9 i):=⟨_,_,_,rfl,(fun e=>by omega),fun _=>rfl⟩
theorem oZ1 (X:List (List UInt8)) (hX:X.length≤10000) (hs:∀s∈X,s.length≤4096):∀(n i nx:Nat) (y:Mt),X.length-i=n→i≤X.length→nx≤5→jG y→Told (QA (X.map mkS) (nx:Int) (i:Int) y):=by
 intro n
 induction n with
 | zero=>
  intro i nx y hn hi hx hy;have hm:(X.map mkS).length=X.length:=tH2 ..;have e:i=(X.map mkS).length:=by omega
  rw[e,qR1];by_cases c:nx≤1
  ·rw[if_pos c];exact⟨_,_,_,rfl,(fun e=>by omega),fun _=>rfl⟩
  ·rw[if_neg c];obtain⟨b,hb,_⟩:=nQ1 y hy;rw[hb]
   cases b with
   | false=>exact⟨_,_,_,rfl,(fun e=>by omega),fun _=>rfl⟩
   | true=>exact⟨_,_,_,rfl,(fun _=>⟨rfl,hy,hb⟩),fun e=>absurd rfl e⟩
 | succ n ih=>
  intro i nx y hn hi hx hy;have hlt:i<X.length:=by omega
  have hm:(X.map mkS).length=X.length:=tH2 ..;have hg:(X.map mkS).getD i ByteArray.empty=mkS (X.getD i []):=by rw[qH2,mJ2,qH2,aI2 hlt];rfl
  have hsl:=hs _ (iD [] hlt);have yes:∀k,k<5→pf (Fr k) (X.getD i [])=true→Told (QB (X.map mkS) (mkS (X.getD i [])) (k:Int) (i:Int) y):=by
   intro k hk hp;obtain⟨b,m',h1,h2⟩:=iR y k ((X.getD i []).drop (Fr k).length) hk (by rw[qI2];omega) hy;rw[gK1 _ _ k i y hk (by omega) hp,h1];simp only[pH2];unfold QC
   cases b with
   | false=>exact cQ _
   | true=>exact ih (i+1) (k+1) m' (by omega) (by omega) (by omega) h2
  have more:∀(d k:Nat),5-k=d→2≤k→k≤5→Told (QB (X.map mkS) (mkS (X.getD i [])) (k:Int) (i:Int) y):=by
   intro d
   induction d with
   | zero=>
    intro k hd h2 h5;have:k=5:=by omega
    subst this;rw[show((5:Nat):Int)=5 from rfl,zX1];exact cQ _
   | succ d ihd=>
    intro k hd h2 h5;cases hp:pf (Fr k) (X.getD i [])with
    | true=>exact yes k (by omega) hp
    | false=>
     rw[tB2 _ _ k i y (by omega) h2 hp];exact ihd (k+1) (by omega) (by omega) (by omega)
  rw[mU1 _ (X.getD i []) nx i y (by omega) hg];by_cases c:2≤nx
  ·exact more _ nx rfl c hx
  ·cases hp:pf (Fr nx) (X.getD i [])with
   | true=>exact yes nx (by omega) hp
   | false=>
    rw[sB1 _ _ nx i y (by omega) hp];exact cQ _
end Go.GV.YtegmfagkklekaaaGreatDoor
