/-
Part of the words that MeetShifts is proved with: no statement of its own, no conditions.
-/
import Derived.Test.YtegmfagkklekaaaGreatDoorFMeetShiftsp
set_option linter.unusedVariables false
set_option linter.unusedSimpArgs false
namespace Go.GV
theorem wr {x:Int} (h1: -9223372036854775808≤x) (h2:x≤9223372036854775807):w6 x=x:=Go.IntWalk.i64_in x ⟨h1,h2⟩
theorem wS1 {n:Nat} (h:n<9223372036854775807):w6 ((n:Int)+1)=((n+1:Nat):Int):=by rw[wr (by omega) (by omega)];omega
theorem dp {p:Prop} [Decidable p] (h:p):decide p=true:=decide_eq_true h
theorem dn {p:Prop} [Decidable p] (h:¬p):decide p=false:=decide_eq_false h
theorem gT1 (n m:Nat):((n:Int)+(m:Int)).toNat=n+m:=by omega
theorem sQ1 (n:Nat):((n:Int)+1).toNat=n+1:=by omega
theorem rR1 (n:Nat):((n:Int)-1).toNat=n-1:=by omega
theorem tn_0 :(0:Int).toNat=0:=rfl
theorem tn_1 :(1:Int).toNat=1:=rfl
theorem ss :(∀(p:Prop) [Decidable p],p→decide p=true)∧(∀(p:Prop) [Decidable p],¬p→decide p=false)∧(∀(h:Decidable True),@decide True h=true)∧(∀(h:Decidable False),@decide False h=false) ∧
  ((!true)=false)∧((!false)=true)∧(∀b,(true&&b)=b)∧(∀b,(false&&b)=false)∧(∀b,(b&&true)=b)∧(∀b,(b&&false)=false) ∧
  (∀b,(true||b)=true)∧(∀b,(false||b)=b)∧(∀b,(b||true)=true)∧(∀b,(b||false)=b)∧(∀(x:Int),-9223372036854775808≤x→x≤9223372036854775807→w6 x=x) ∧
  (∀n m:Nat,((n:Int)+(m:Int)).toNat=n+m)∧(∀n:Nat,((n:Int)+1).toNat=n+1)∧(∀n:Nat,((n:Int)-1).toNat=n-1)∧((0:Int).toNat=0)∧((1:Int).toNat=1)∧(∀n:Nat,(n:Int).toNat=n) ∧
  (∀(α:Type) (a b:α),(bif true then a else b)=a)∧(∀(α:Type) (a b:α),(bif false then a else b)=b)∧(∀(α β:Type) (a:α) (f:α→Option β),(some a).bind f=f a):=
 ⟨fun _=>dp,fun _=>dn,fun _=>decide_true _,fun _=>decide_false _,rfl,rfl,Bool.true_and,Bool.false_and,eA2,Bool.and_false,Bool.true_or,Bool.false_or,Bool.or_true,Bool.or_false,fun _=>wr,gT1,sQ1,rR1,tn_0,tn_1,fun _=>rfl,fun _ _ _=>rfl,fun _ _ _=>rfl,fun _ _ _ _=>rfl⟩
abbrev B (s:ByteArray):List UInt8:=s.data.toList
def mkS (l:List UInt8):ByteArray:=⟨l.toArray⟩
theorem B_mk (l:List UInt8):B (mkS l)=l:=rfl
theorem mk_B (s:ByteArray):mkS (B s)=s:=rfl
theorem dO1 {a b:ByteArray} (h:B a=B b):a=b:=by rw[←mk_B a,←mk_B b,h]
theorem dP1 (s:ByteArray):s.size=(B s).length:=by cases s;simp[ByteArray.size,B]
theorem rU1 (s:ByteArray) (a b:Nat):B (s.extract a b)=((B s).drop a).take (b-a):=by obtain⟨⟨l⟩⟩:=s;rw[ByteArray.extract_mk]
theorem oC1 (s:ByteArray):s.toList=B s:=ByteArray.toList_eq s
theorem tV1 (a b:ByteArray):(a.toList==b.toList)=decide (a=b):=by rw[oC1,oC1,Bool.eq_iff_iff,beq_iff_eq,decide_eq_true_eq];exact⟨dO1,fun h=>by rw[h]⟩
theorem rT1 (s:ByteArray) (k:Nat):B (s.extract 0 k)=(B s).take k:=by rw[rU1];simp
theorem gP1 (s:ByteArray) (k:Nat):B (s.extract k s.size)=(B s).drop k:=by rw[rU1,dP1,qX1 (by simp)]
def I (l:List UInt8):List Int:=l.map fun b=>(b.toNat:Int)
theorem okI {a:List Int} (h:∀x∈a,iS1 .u8 x):a=I (a.map fun n=>UInt8.ofNat n.toNat):=by simp only[I,List.map_map];refine(List.map_id a).symm.trans (gA2 fun x hx=>?_);have h1:=h x hx;simp only[iS1]at h1;have h2:(0:Int)≤x∧x≤255:=h1;simp only[Function.comp,id,UInt8.toNat_ofNat'];omega
theorem pK1 {α:Type} (l:List α) (i:Nat) (d:α) (h:i<l.length):l.drop i=l.getD i d::l.drop (i+1):=by rw[aX1,dX1 h,jZ1];exact List.drop_eq_getElem_cons h
theorem tK1 {α:Type} (o:List α) (p z:α):(o++[p]).getD o.length z=p:=by simp[aX1]
theorem aO1 {α:Type} (o:List α) (p v:α):(o++[p]).set o.length v=o++[v]:=by simp
theorem tH {α:Type} (o:List α) (p:α):(o++[p]).length=o.length+1:=by simp
theorem jJ1 {n:Nat} (h0:0<n) (h:n<4611686018427387904):w6 ((n:Int)-1)=((n-1:Nat):Int):=by rw[wr (by omega) (by omega)];omega
theorem xP1 {n:Nat} (h:n<4611686018427387904):w6 ((n:Int)+1)=((n+1:Nat):Int):=wS1 (by omega)
theorem gU {α:Type} (l:List α):l=[] ∨ ∃o p,l=o++[p]:=by
 rcases List.eq_nil_or_concat l with h | ⟨o,p,h⟩
 ·exact .inl h
 ·exact .inr ⟨o,p,by simpa using h⟩
theorem fN {α:Type} {l:List α} {i:Nat} (z:α) (h:i<l.length):l.getD i z=l[i]:=by simp[aX1,h]
theorem wY {α:Type} {l:List α} {i:Nat} (z:α) (h:i<l.length):l.getD i z∈l:=by rw[fN z h];exact List.getElem_mem h
theorem pB {α:Type} {l:List α} {i:Nat} (z:α) (h:i<l.length):l.drop i=l.getD i z::l.drop (i+1):=pK1 l i z h
theorem wG {α:Type} {l:List α} {i:Nat} (z:α) (h:i<l.length):l.take (i+1)=l.take i++[l.getD i z]:=by rw[List.take_add_one,dX1 h,fN z h];rfl
theorem pO1 (a b:Int):mm true a b=max a b:=by unfold mm;simp only[cond_true];split <;> omega
theorem dJ1 (a b:Int):mm false a b=min a b:=by unfold mm;simp only[cond_false];split <;> omega
end Go.GV
namespace Go.GV.YtegmfagkklekaaaGreatDoor
open Go.Proofs
def oO (y:Int):Bool:=decide (y%4=0)&&(!decide (y%100=0)||decide (y%400=0))
def mlen (y m:Int):Int:=if m=2 then(if oO y=true then 29 else 28)else if m=4∨m=6∨m=9∨m=11 then 30 else if 1≤m∧m≤12 then 31 else 0
def cumT (m:Int):Int:=if m≤1 then 0 else if m=2 then 31 else if m=3 then 59 else if m=4 then 90 else if m=5 then 120 else if m=6 then 151 else if m=7 then 181 else if m=8 then 212 else if m=9 then 243 else if m=10 then 273 else if m=11 then 304 else if m=12 then 334 else 365
def cum (y m:Int):Int:=cumT m+if 3≤m∧oO y=true then 1 else 0
def fst_ (y:Int):Int:=365*(y-1)+(y-1)/4-(y-1)/100+(y-1)/400-719162
theorem tmn {n:Int} (h:0≤n) (k:Int):Int.tmod n k=n%k:=Int.tmod_eq_emod_of_nonneg h
theorem tdn {n:Int} (h:0≤n) (k:Int):Int.tdiv n k=n/k:=Int.tdiv_eq_ediv_of_nonneg h
theorem yY (y:Int) (hy:0≤y):yG.f y=some (oO y,()):=by
 rw[yG.f_eq];simp only[tmn hy];unfold oO;by_cases h1:y%4=0
 ·by_cases h2:y%100=0
  ·by_cases h3:y%400=0
   ·simp(disch:=omega)only[ss]
   ·simp(disch:=omega)only[ss]
  ·simp(disch:=omega)only[ss]
 ·simp(disch:=omega)only[ss]
theorem jF (y m:Int) (hy:0≤y):wA.f y m=some (mlen y m,()):=by
 have hL:=yY y hy;rw[wA.f_eq];unfold mlen;by_cases h2:m=2
 ·subst h2;simp(disch:=omega)only[ss,wA.l1_eq,hL];cases oO y <;> rfl
 ·rw[if_neg h2];by_cases h4:m=4∨m=6∨m=9∨m=11
  ·rw[if_pos h4];rcases h4 with rfl | rfl | rfl | rfl
   all_goals (simp(disch:=omega)only[ss,wA.l1_eq])
  ·rw[if_neg h4];by_cases hr:1≤m∧m≤12
   ·rw[if_pos hr];have:m=1∨m=3∨m=5∨m=7∨m=8∨m=10∨m=12:=by omega
    rcases this with rfl | rfl | rfl | rfl | rfl | rfl | rfl
    all_goals (simp(disch:=omega)only[ss,wA.l1_eq,wA.l2_eq])
   ·rw[if_neg hr];simp(disch:=omega)only[ss,wA.l1_eq,wA.l2_eq]
theorem wH (y m:Int):0≤mlen y m∧mlen y m≤31∧(0<mlen y m→1≤m∧m≤12):=by
 unfold mlen;split
 ·cases oO y <;> (simp;omega)
 ·split
  ·omega
  ·split <;> omega
theorem eD (y m:Int) (h1:1≤m) (h2:m≤12):cum y (m+1)=cum y m+mlen y m:=by
 have:m=1∨m=2∨m=3∨m=4∨m=5∨m=6∨m=7∨m=8∨m=9∨m=10∨m=11∨m=12:=by omega
 unfold cum mlen cumT;cases oO y <;> (rcases this with rfl | rfl | rfl | rfl | rfl | rfl | rfl | rfl | rfl | rfl | rfl | rfl <;> simp)
theorem oJ (y m:Int):0≤cum y m∧cum y m≤366:=by unfold cum cumT;split <;> (try split) <;> (repeat' split) <;> omega
def vJ (y m d:Int):Bool:=decide (1≤y)&&decide (y≤9999)&&decide (1≤d)&&decide (d≤mlen y m)
theorem wE1 (y m d:Int):jH.f y m d=some (vJ y m d,()):=by
 rw[jH.f_eq,mF.f_eq];unfold vJ;by_cases h1:1≤y
 ·have hL:=jF y m (by omega);by_cases h2:y≤9999
  ·by_cases h3:1≤d
   ·simp(disch:=omega)only[ss,hL,ge_iff_le]
   ·simp(disch:=omega)only[ss,hL,ge_iff_le]
  ·simp(disch:=omega)only[ss,ge_iff_le]
 ·simp(disch:=omega)only[ss,ge_iff_le]
theorem eK (y m d:Int) (hy:1≤y) (hy2:y≤10000) (hm:1≤m) (hm2:m≤12) (hd:1≤d) (hd2:d≤31):iC.f y m d=some (fst_ y+d-1+cum y m,()):=by
 rw[iC.f_eq];by_cases h3:m<3
 ·simp(disch:=omega)only[ss,tdn (show 0≤y-1+400 by omega),tdn (show 0≤153*(m+12-3)+2 by omega)]
  congr 2
  unfold fst_ cum cumT;have:m=1∨m=2:=by omega
  rcases this with rfl | rfl
  ·simp;omega
  ·simp;omega
 ·simp(disch:=omega)only[ss,tdn (show 0≤y+400 by omega),tdn (show 0≤153*(m-3)+2 by omega)]
  congr 2
  unfold fst_ cum cumT
  have e:(if 3≤m∧oO y=true then(1:Int)else 0)=y/4-(y-1)/4-(y/100-(y-1)/100)+(y/400-(y-1)/400):=by
   unfold oO;by_cases h1:y%4=0
   ·by_cases h2:y%100=0
    ·by_cases h5:y%400=0
     ·rw[if_pos ⟨by omega,by simp[h1,h2,h5]⟩];omega
     ·rw[if_neg (by simp[h1,h2,h5])];omega
    ·rw[if_pos ⟨by omega,by simp[h1,h2]⟩];omega
   ·rw[if_neg (by simp[h1])];omega
  rw[e];have:m=3∨m=4∨m=5∨m=6∨m=7∨m=8∨m=9∨m=10∨m=11∨m=12:=by omega
  rcases this with rfl | rfl | rfl | rfl | rfl | rfl | rfl | rfl | rfl | rfl
  all_goals (simp;omega)
theorem uP (y:Int) (hy:1≤y) (hy2:y≤10001): -1000000≤fst_ y∧fst_ y≤4000000:=by unfold fst_;omega
theorem tX (y m d:Int):nF.f y m d=some (if vJ y m d=true then(fst_ y+d-1+cum y m,0,())else(0,1,())):=by
 have h1:=wE1 y m d;rw[nF.f_eq,h1]
 cases hv:vJ y m d with
 | false=>rfl
 | true=>
  unfold vJ at hv;simp only[xW1,decide_eq_true_eq]at hv;obtain⟨⟨⟨h3,h4⟩,h5⟩,h6⟩:=hv;have hb:=wH y m;have hm:=hb.2.2 (by omega);have hN:=eK y m d h3 (by omega) hm.1 hm.2 h5 (by omega);have hfb:=uP y h3 (by omega);have hcb:=oJ y m;rw[if_pos rfl];simp(disch:=omega)only[ss,hN]
theorem iF (y:Int) (hy:1≤y):fst_ (y+1)=fst_ y+cum y 13:=by
 unfold fst_ cum cumT
 have e:(if 3≤(13:Int)∧oO y=true then(1:Int)else 0)=y/4-(y-1)/4-(y/100-(y-1)/100)+(y/400-(y-1)/400):=by
  unfold oO;by_cases h1:y%4=0
  ·by_cases h2:y%100=0
   ·by_cases h5:y%400=0
    ·rw[if_pos ⟨by omega,by simp[h1,h2,h5]⟩];omega
    ·rw[if_neg (by simp[h1,h2,h5])];omega
   ·rw[if_pos ⟨by omega,by simp[h1,h2]⟩];omega
  ·rw[if_neg (by simp[h1])];omega
 rw[e];simp;omega
theorem oF1 (y:Int):365≤cum y 13∧cum y 13≤366:=by unfold cum cumT;split <;> (simp;try omega)
theorem kD1 {a b:Int} (h0:1≤a) (h:a<b):fst_ a+365≤fst_ b:=by
 obtain⟨k,hk⟩:=Int.eq_ofNat_of_zero_le (show 0≤b-a-1 by omega);have e:b=a+1+(k:Int):=by omega
 subst e;clear hk h
 induction k with
 | zero=>
  have:=iF a h0;have:=oF1 a;simp;omega
 | succ k ih=>
  have:=iF (a+1+(k:Int)) (by omega);have:=oF1 (a+1+(k:Int));rw[show a+1+((k+1:Nat):Int)=a+1+(k:Int)+1 by omega];omega
theorem cC {a b:Int} (h0:1≤a) (h:a≤b):fst_ a≤fst_ b:=by
 rcases Int.lt_or_eq_of_le h with h | h
 ·have:=kD1 h0 h;omega
 ·rw[h];exact aA2 _
theorem aF1 :fst_ 1 = -719162:=by decide
theorem fH :fst_ 10000=2932897:=by decide
theorem vZ (y:Int):cum y 1=0:=by unfold cum cumT;simp
theorem tG (y:Int) {a b:Int} (h0:1≤a) (h:a≤b) (h1:b≤13):cum y a≤cum y b:=by
 obtain⟨k,hk⟩:=Int.eq_ofNat_of_zero_le (show 0≤b-a by omega);have e:b=a+(k:Int):=by omega
 subst e;clear hk h
 induction k with
 | zero=>simp
 | succ k ih=>
  have:=ih (by omega);have h2:=eD y (a+(k:Int)) (by omega) (by omega);have:=wH y (a+(k:Int));rw[show a+((k+1:Nat):Int)=a+(k:Int)+1 by omega,h2];omega
theorem mS1 (n:Int) (h1: -719162≤n) (h2:n≤2932896):∃y,1≤y∧y≤9999∧fst_ y≤n∧n<fst_ (y+1):=by
 have key:∀k:Nat,k≤9999→n<fst_ (1+(k:Int)) → ∃y,1≤y∧y≤9999∧fst_ y≤n∧n<fst_ (y+1):=by
  intro k
  induction k with
  | zero=>
   intro _ h;rw[show(1:Int)+((0:Nat):Int)=1 from rfl,aF1]at h;omega
  | succ k ih=>
   intro hk h;by_cases c:n<fst_ (1+(k:Int))
   ·exact ih (by omega) c
   ·exact⟨1+(k:Int),by omega,by omega,by omega,by rw[show(1:Int)+(k:Int)+1=1+((k+1:Nat):Int) by omega];exact h⟩
 refine key 9999 (iX1 _) ?_;rw[show(1:Int)+((9999:Nat):Int)=10000 from rfl,fH];omega
theorem hM1 (y d:Int) (h1:0≤d) (h2:d<cum y 13):∃m,1≤m∧m≤12∧cum y m≤d∧d<cum y (m+1):=by
 have key:∀k:Nat,k≤12→d<cum y (1+(k:Int)) → ∃m,1≤m∧m≤12∧cum y m≤d∧d<cum y (m+1):=by
  intro k
  induction k with
  | zero=>
   intro _ h;rw[show(1:Int)+((0:Nat):Int)=1 from rfl,vZ]at h;omega
  | succ k ih=>
   intro hk h;by_cases c:d<cum y (1+(k:Int))
   ·exact ih (by omega) c
   ·exact⟨1+(k:Int),by omega,by omega,by omega,by rw[show(1:Int)+(k:Int)+1=1+((k+1:Nat):Int) by omega];exact h⟩
 exact key 12 (iX1 _) h2
def tF (n y m d:Int):Prop:=vJ y m d=true∧fst_ y+d-1+cum y m=n
theorem vB {y m d:Int}:vJ y m d=true↔1≤y∧y≤9999∧1≤d∧d≤mlen y m:=by unfold vJ;simp only[xW1,decide_eq_true_eq,and_assoc]
theorem fE {n y m d:Int} (h:tF n y m d):fst_ y≤n∧n<fst_ (y+1)∧1≤m∧m≤12 ∧ -719162≤n∧n≤2932896:=by obtain⟨h1,h2⟩:=h;obtain⟨h3,h4,h5,h6⟩:=vB.1 h1;have hm:=(wH y m).2.2 (by omega);have hc:=eD y m hm.1 hm.2;have hb:=oJ y m;have hs:=iF y h3;have hmo:=tG y (a:=m+1) (b:=13) (by omega) (by omega) (by omega);have h7:=cC (a:=1) (b:=y) (by omega) h3;have h8:=cC (a:=y+1) (b:=10000) (by omega) (by omega);rw[aF1]at h7;rw[fH]at h8;exact⟨by omega,by omega,hm.1,hm.2,by omega,by omega⟩
theorem rS1 (y d0 M:Int) (hy:1≤y) (hy2:y≤9999) (h1:0≤d0) (h2:M≤12) (h3:cum y M≤d0) (h4:d0<cum y (M+1)):∀(k:Nat) (m:Int),M-m=k→1≤m →
  pA.l5 y (d0-cum y m) m=some (y,M,d0-cum y M+1,0,())∧True:=by
 intro k
 induction k with
 | zero=>
  intro m hk hm;have e:m=M:=by omega
  subst e;have hc:=eD y m hm h2;have hb:=oJ y m;have hb2:=oJ y (m+1);rw[pA.l5_eq,jF y m (by omega)];refine⟨?_,trivial⟩;simp(disch:=omega)only[ss,ge_iff_le]
 | succ k ih=>
  intro m hk hm;have hc:=eD y m hm (by omega);have hmo:=tG y (a:=m+1) (b:=M) (by omega) (by omega) (by omega);have hb:=oJ y m;have hb1:=oJ y M;have hb2:=oJ y (m+1);have hb3:=oJ y (M+1);rw[pA.l5_eq,jF y m (by omega)];have e:d0-cum y m-mlen y m=d0-cum y (m+1):=by omega
  refine⟨?_,trivial⟩;simp(disch:=omega)only[ss,ge_iff_le];rw[e];exact(ih (m+1) (by omega) (by omega)).1
theorem nL1 (y:Int) (hy:1≤y) (hy2:y≤10000):iC.f y 1 1=some (fst_ y,()):=by
 rw[eK y 1 1 hy hy2 (by omega) (by omega) (by omega) (by omega),vZ]
 congr 2
 omega
theorem qU1 (n Y:Int) (hY:1≤Y) (h1:fst_ Y≤n) (h2:n<fst_ (Y+1)):∀(k:Nat) (z:Int),z-Y=k→z≤9999→pA.l4 n z=pA.l5 Y (n-fst_ Y) 1:=by
 intro k;have hfb:=uP (Y+1) (by omega)
 induction k with
 | zero=>
  intro z hk hz;have e:z=Y:=by omega
  subst e;have hfb:=uP z (by omega) (by omega);have hfb1:=uP (z+1) (by omega) (by omega);rw[pA.l4_eq,nL1 z (by omega) (by omega)];simp(disch:=omega)only[ss,gt_iff_lt]
 | succ k ih=>
  intro z hk hz;have hm:=cC (a:=Y+1) (b:=z) (by omega) (by omega);have hfb:=uP z (by omega) (by omega);rw[pA.l4_eq,nL1 z (by omega) (by omega)];simp(disch:=omega)only[ss,gt_iff_lt];exact ih (z-1) (by omega) (by omega)
theorem xS1 (n Y:Int) (hY:1≤Y) (hY2:Y≤9999) (h1:fst_ Y≤n) (h2:n<fst_ (Y+1)):∀(k:Nat) (y:Int),(Y-y).toNat=k→1≤y→y≤9999 → ∃z,Y≤z∧z≤9999∧pA.l1 n y=pA.l4 n z:=by
 intro k
 induction k with
 | zero=>
  intro y hk hy hy2;refine⟨y,by omega,hy2,?_⟩;rw[pA.l1_eq];by_cases c:y<9999
  ·have hm:=cC (a:=Y+1) (b:=y+1) (by omega) (by omega);have hw:w6 (y+1)=y+1:=wr (by omega) (by omega);rw[hw,nL1 (y+1) (by omega) (by omega)];simp(disch:=omega)only[ss,pA.l2_eq,pA.l3_eq]
  ·simp(disch:=omega)only[ss,pA.l2_eq,pA.l3_eq]
 | succ k ih=>
  intro y hk hy hy2;have hm:=cC (a:=y+1) (b:=Y) (by omega) (by omega);have hw:w6 (y+1)=y+1:=wr (by omega) (by omega);obtain⟨z,z1,z2,z3⟩:=ih (y+1) (by omega) (by omega) (by omega);refine⟨z,z1,z2,?_⟩;rw[pA.l1_eq,hw,nL1 (y+1) (by omega) (by omega)];simp(disch:=omega)only[ss,pA.l2_eq];exact z3
theorem tI (n:Int) (h1: -719162≤n) (h2:n≤2932896):∃y m d,tF n y m d∧pA.f n=some (y,m,d,0,())∧True:=by
 obtain⟨Y,y1,y2,y3,y4⟩:=mS1 n h1 h2;have hs:=iF Y y1;obtain⟨M,m1,m2,m3,m4⟩:=hM1 Y (n-fst_ Y) (by omega) (by omega);have hc:=eD Y M m1 m2;have h5:=rS1 Y (n-fst_ Y) M y1 y2 (by omega) m2 m3 m4 (M-1).toNat 1 (by omega) (by omega);rw[vZ,Int.sub_zero]at h5;refine⟨Y,M,n-fst_ Y-cum Y M+1,⟨vB.2 ⟨y1,y2,by omega,by omega⟩,by omega⟩,?_,?_⟩
 ·have hz1:(n+719162)*400/146097+1≤9999:=by omega
  obtain⟨z,z1,z2,z3⟩:=xS1 n Y y1 y2 y3 y4 _ ((n+719162)*400/146097+1) rfl (by omega) hz1;have h4:=qU1 n Y y1 y3 y4 (z-Y).toNat z (by omega) z2;rw[pA.f_eq,zJ.f_eq];have e1:w6 (n - -719162)=n+719162:=by rw[wr (by omega) (by omega)];omega
  have e2:w6 ((n+719162)*400)=(n+719162)*400:=wr (by omega) (by omega);simp(disch:=omega)only[ss,e1,e2,tdn (show 0≤(n+719162)*400 by omega),ge_iff_le];rw[z3,h4];exact h5.1
 ·trivial
theorem pJ1 (n:Int) (h:¬(-719162≤n∧n≤2932896)):pA.f n=some (0,0,0,1,())∧True:=by
 rw[pA.f_eq,zJ.f_eq];refine⟨?_,trivial⟩;by_cases c: -719162≤n
 ·simp(disch:=omega)only[ss,ge_iff_le]
 ·simp(disch:=omega)only[ss,ge_iff_le]
theorem jR {n y m d y' m' d':Int} (h:tF n y m d) (g:tF n y' m' d'):y=y'∧m=m'∧d=d':=by
 obtain⟨h1,h2,h3,h4,_⟩:=fE h;obtain⟨g1,g2,g3,g4,_⟩:=fE g;obtain⟨a1,a2,a3,a4⟩:=vB.1 h.1;obtain⟨b1,b2,b3,b4⟩:=vB.1 g.1;have e:y=y':=by
  rcases Int.lt_trichotomy y y' with c | c | c
  ·have:=cC (a:=y+1) (b:=y') (by omega) (by omega);omega
  ·exact c
  ·have:=cC (a:=y'+1) (b:=y) (by omega) (by omega);omega
 subst e;have hh:=h.2;have hg:=g.2;have c1:=eD y m h3 h4;have c2:=eD y m' g3 g4;have em:m=m':=by
  rcases Int.lt_trichotomy m m' with c | c | c
  ·have:=tG y (a:=m+1) (b:=m') (by omega) (by omega) (by omega);omega
  ·exact c
  ·have:=tG y (a:=m'+1) (b:=m) (by omega) (by omega) (by omega);omega
 subst em;exact⟨rfl,rfl,by omega⟩
theorem tdm (t k:Int) (hk:0<k):Int.tdiv t k=(if t%k≠0∧t<0 then t/k+1 else t/k)∧Int.tmod t k=(if t%k≠0∧t<0 then t%k-k else t%k):=by
 by_cases h:0≤t
 ·rw[if_neg (by omega),if_neg (by omega)];exact⟨tdn h k,tmn h k⟩
 ·have e:t = -(-t):=by omega
  have h1:Int.tdiv t k = -((-t)/k):=by rw[e,Int.neg_tdiv,tdn (by omega),Int.neg_neg]
  have h2:Int.tmod t k = -((-t)%k):=by rw[e,Int.neg_tmod,tmn (by omega),Int.neg_neg]
  have h3:=Int.emod_add_mul_ediv t k;have h4:=Int.emod_add_mul_ediv (-t) k;have b1:=Int.emod_nonneg t (show k≠0 by omega);have b2:=Int.emod_lt_of_pos t hk;have b3:=Int.emod_nonneg (-t) (show k≠0 by omega);have b4:=Int.emod_lt_of_pos (-t) hk;rw[h1,h2];by_cases hz:t%k=0
  ·rw[if_neg (by omega),if_neg (by omega)];have hz2:(-t)%k=0:=by have:k∣t:=Int.dvd_of_emod_eq_zero hz;exact Int.emod_eq_zero_of_dvd (Int.dvd_neg.2 this)
   have:(-t)/k = -(t/k):=Int.neg_ediv_of_dvd (Int.dvd_of_emod_eq_zero hz);exact⟨by omega,by omega⟩
  ·rw[if_pos ⟨hz,by omega⟩,if_pos ⟨hz,by omega⟩];have hq:(-t)%k=k-t%k:=by
    have e1: -t=(k-t%k)+k*(-(t/k)-1):=by rw[Int.mul_sub,Int.mul_neg];omega
    rw[e1,Int.add_mul_emod_self_left,Int.emod_eq_of_lt (by omega) (by omega)]
   have hd:(-t)/k = -(t/k)-1:=by
    have:k*((-t)/k)=k*(-(t/k)-1):=by rw[Int.mul_sub,Int.mul_neg];omega
    exact Int.eq_of_mul_eq_mul_left (by omega) this
   exact⟨by omega,by omega⟩
theorem wF (t:Int) (h1: -9000000000000000000≤t) (h2:t≤9000000000000000000):qD.f t=some (t/86400,t%86400,())∧kJ.f t=some (t/86400,t%86400,()):=by
 obtain⟨e1,e2⟩:=tdm t 86400 (by omega);rw[qD.f_eq,kJ.f_eq,qH.f_eq,e1,e2];by_cases c:t%86400≠0∧t<0
 ·rw[if_pos c,if_pos c];have q1:t/86400+1-1=t/86400:=by omega
  have q2:t%86400-86400+86400=t%86400:=by omega
  simp(disch:=omega)only[ss,q1,q2];exact⟨trivial,trivial⟩
 ·rw[if_neg c,if_neg c];simp(disch:=omega)only[ss];exact⟨trivial,trivial⟩
theorem cU (t:Int):qE.f t=some (decide (-62135596800≤t∧t≤253402300799),())∧dJ.f t=some (decide (-62135596800≤t∧t≤253402300799),()):=by
 rw[qE.f_eq,dJ.f_eq];by_cases c: -62135596800≤t
 ·by_cases c2:t≤253402300799
  ·simp(disch:=omega)only[ss,ge_iff_le];exact⟨trivial,trivial⟩
  ·simp(disch:=omega)only[ss,ge_iff_le];exact⟨trivial,trivial⟩
 ·simp(disch:=omega)only[ss,ge_iff_le];exact⟨trivial,trivial⟩
def wk (n:Int):Int:=(n+3)%7
theorem cJ1 (n:Int):0≤wk n∧wk n≤6:=by unfold wk;omega
theorem oF (n:Int):oD.f n=some (wk n,()):=by
 obtain⟨_,e⟩:=tdm n 7 (by omega);rw[oD.f_eq,e];unfold wk;by_cases c:n%7≠0∧n<0
 ·rw[if_pos c];simp(disch:=omega)only[ss,tmn (show(0:Int)≤n%7-7+7+3 by omega)]
  congr 2
  omega
 ·rw[if_neg c];simp(disch:=omega)only[ss,tmn (show(0:Int)≤n%7+7+3 by omega)]
  congr 2
  omega
theorem numJ (y:Int) (hy:0≤y) (hy2:y≤10001):iC.f y 1 1=some (fst_ y,()):=by
 rw[iC.f_eq];simp(disch:=omega)only[ss,tdn (show 0≤y-1+400 by omega),tdn (show(0:Int)≤153*(1+12-3)+2 by omega)]
 congr 2
 unfold fst_;omega
def w1 (y w:Int):Int:=fst_ y+3-(fst_ y+6-w)%7
theorem yH (y:Int) (hy:0≤y) (hy2:y≤10001): -1000000≤fst_ y∧fst_ y≤4000000:=by unfold fst_;omega
theorem uJ (y w:Int) (hy:0≤y) (hy2:y≤10001) (hw:0≤w) (hw2:w≤6):jE.f y w=some (w1 y w,()):=by
 have hb:=yH y hy hy2;have hk:=cJ1 (fst_ y);rw[jE.f_eq,numJ y hy hy2];simp only[wW1];rw[oF];simp(disch:=omega)only[ss,tmn (show(0:Int)≤wk (fst_ y)-w+7 by omega)];unfold w1;by_cases c:(wk (fst_ y)-w+7)%7≤3
 ·simp(disch:=omega)only[ss]
  congr 2
  unfold wk at *;omega
 ·simp(disch:=omega)only[ss]
  congr 2
  unfold wk at *;omega
theorem cI (y:Int) (hy:0≤y):365≤fst_ (y+1)-fst_ y∧fst_ (y+1)-fst_ y≤366:=by
 by_cases c:1≤y
 ·have:=iF y c;have:=oF1 y;omega
 ·have:y=0:=by omega
  subst this;decide
theorem qJ (y w:Int) (hy:0≤y):w1 (y+1) w=w1 y w+364∨w1 (y+1) w=w1 y w+371:=by have:=cI y hy;unfold w1;omega
theorem mH (y w:Int):fst_ y-3≤w1 y w∧w1 y w≤fst_ y+3∧(w1 y w+3-w)%7=0:=by unfold w1;omega
def mT (n w y k:Int):Prop:=w1 y w≤n∧n<w1 (y+1) w∧k=(n-w1 y w)/7+1
theorem sA1 {a b w:Int} (h0:0≤a) (h:a≤b):w1 a w≤w1 b w:=by
 obtain⟨k,hk⟩:=Int.eq_ofNat_of_zero_le (show 0≤b-a by omega);have e:b=a+(k:Int):=by omega
 subst e;clear hk h
 induction k with
 | zero=>simp
 | succ k ih=>
  have:=qJ (a+(k:Int)) w (by omega);rw[show a+((k+1:Nat):Int)=a+(k:Int)+1 by omega];omega
theorem lM {n w y k y' k':Int} (h0:0≤y) (h1:0≤y') (h:mT n w y k) (g:mT n w y' k'):y=y'∧k=k':=by
 obtain⟨a1,a2,a3⟩:=h;obtain⟨b1,b2,b3⟩:=g;have e:y=y':=by
  rcases Int.lt_trichotomy y y' with c | c | c
  ·have:=sA1 (a:=y+1) (b:=y') (w:=w) (by omega) (by omega);omega
  ·exact c
  ·have:=sA1 (a:=y'+1) (b:=y) (w:=w) (by omega) (by omega);omega
 subst e;exact⟨rfl,by omega⟩
theorem gQ (w:Int):eG.f w=some (decide (0≤w∧w≤6),()):=by
 rw[eG.f_eq];by_cases c:0≤w
 ·by_cases c2:w≤6
  ·simp(disch:=omega)only[ss,ge_iff_le]
  ·simp(disch:=omega)only[ss,ge_iff_le]
 ·simp(disch:=omega)only[ss,ge_iff_le]
theorem lB1 (n w Y:Int) (hY:0≤Y) (hY2:Y≤10001) (hw:0≤w) (hw2:w≤6) (h1:w1 Y w≤n) (h2:n≤4000000) (e:Int):aC.l2 n w Y=some (Y,(n-w1 Y w)/7+1,0,())∧True:=by have c:=uJ Y w hY hY2 hw hw2;have f:=yH Y hY hY2;have g:=mH Y w;rw[aC.l2_eq,c];refine⟨?_,trivial⟩;simp(disch:=omega)only[ss,tdn (show(0:Int)≤n-w1 Y w by omega)]
theorem kR1 (n w Y:Int) (hY:1≤Y) (hY2:Y≤9999) (hw:0≤w) (hw2:w≤6) (q1:fst_ Y≤n) (q2:n<fst_ (Y+1)):∃y k,mT n w y k∧0≤y∧y≤10000∧1≤k∧k≤53∧aC.l1 n w Y false=some (y,k,0,())∧True:=by
 have f2:=yH (Y+1) (by omega) (by omega);have n0:=mH (Y-1) w;have n1:=mH Y w;have n2:=mH (Y+1) w;have n3:=mH (Y+2) w;have s0:=qJ (Y-1) w (by omega);have s1:=qJ Y w (by omega);have s2:=qJ (Y+1) w (by omega);have p0:=cI (Y-1) (by omega);rw[show Y-1+1=Y by omega]at s0 p0;rw[show Y+1+1=Y+2 by omega]at s2;have c1:=uJ Y w (by omega) (by omega) hw hw2;have c2:=uJ (Y+1) w (by omega) (by omega) hw hw2;have wp:w6 (Y+1)=Y+1:=wr (by omega) (by omega);have wm:w6 (Y-1)=Y-1:=wr (by omega) (by omega);rw[aC.l1_eq,cond_false,wp,wm,c1,c2];simp only[wW1];by_cases cl:n<w1 Y w
 ·have hn:¬n≥w1 (Y+1) w:=by omega
  have h:=lB1 n w (Y-1) (by omega) (by omega) hw hw2 (by omega) (by omega) 0;refine⟨Y-1,(n-w1 (Y-1) w)/7+1,⟨by omega,by rw[show Y-1+1=Y by omega];exact cl,rfl⟩,by omega,by omega,by omega,by omega,?_,?_⟩
  ·rw[dp cl,cond_true];exact h.1
  ·trivial
 ·by_cases cu:n≥w1 (Y+1) w
  ·have h:=lB1 n w (Y+1) (by omega) (by omega) hw hw2 (by omega) (by omega) 0;refine⟨Y+1,(n-w1 (Y+1) w)/7+1,⟨by omega,by rw[show Y+1+1=Y+2 by omega];omega,rfl⟩,by omega,by omega,by omega,by omega,?_,?_⟩
   ·rw[dn cl,dp cu,cond_true,cond_false];exact h.1
   ·trivial
  ·have h:=lB1 n w Y (by omega) (by omega) hw hw2 (by omega) (by omega) 0;refine⟨Y,(n-w1 Y w)/7+1,⟨by omega,by omega,rfl⟩,by omega,by omega,by omega,by omega,?_,?_⟩
   ·rw[dn cl,dn cu,cond_false,cond_false];exact h.1
   ·trivial
theorem sR (n w:Int) (h1: -719162≤n) (h2:n≤2932896) (hw:0≤w) (hw2:w≤6):∃y k,mT n w y k∧0≤y∧y≤10000∧1≤k∧k≤53∧aC.f n w=some (y,k,0,())∧True:=by
 obtain⟨Y,m,d,hd,e1,e2⟩:=tI n h1 h2;obtain⟨q1,q2,_⟩:=fE hd;obtain⟨v1,v2,_⟩:=vB.1 hd.1;obtain⟨y,k,g1,g2,g3,g4,g5,g6,g7⟩:=kR1 n w Y v1 v2 hw hw2 q1 q2;refine⟨y,k,g1,g2,g3,g4,g5,?_,?_⟩
 ·rw[aC.f_eq,e1];simp only[wW1];rw[gQ,dp (show 0≤w∧w≤6 from⟨hw,hw2⟩)];exact g6
 ·trivial
theorem gO (y:Int):mF.f y=some (decide (1≤y∧y≤9999),()):=by
 rw[mF.f_eq];by_cases c:1≤y
 ·by_cases c2:y≤9999
  ·simp(disch:=omega)only[ss,ge_iff_le]
  ·simp(disch:=omega)only[ss,ge_iff_le]
 ·simp(disch:=omega)only[ss,ge_iff_le]
def wks (y w:Int):Int:=(w1 (y+1) w-w1 y w)/7
theorem hT1 (y w:Int) (hy:0≤y):(wks y w=52∨wks y w=53)∧w1 (y+1) w=w1 y w+7*wks y w:=by have:=qJ y w hy;unfold wks;omega
theorem lF1 (y w:Int):bH.f y w=some (if(1≤y∧y≤9999)∧0≤w∧w≤6 then(wks y w,0,())else(0,1,())):=by
 rw[bH.f_eq,gO];by_cases c:1≤y∧y≤9999
 ·rw[dp c];simp only[wW1];rw[gQ];by_cases c2:0≤w∧w≤6
  ·rw[dp c2,if_pos ⟨c,c2⟩];have h1:=uJ (y+1) w (by omega) (by omega) c2.1 c2.2;have h2:=uJ y w (by omega) (by omega) c2.1 c2.2;have f1:=mH (y+1) w;have f2:=mH y w;have f3:=yH y (by omega) (by omega);have f4:=yH (y+1) (by omega) (by omega);have s:=qJ y w (by omega);have wp:w6 (y+1)=y+1:=wr (by omega) (by omega);rw[wp,h1,h2];unfold wks;simp(disch:=omega)only[ss,tdn (show(0:Int)≤w1 (y+1) w-w1 y w by omega)]
  ·rw[dn c2,if_neg fun q=>c2 q.2];simp(disch:=omega)only[ss]
 ·rw[dn c,if_neg fun q=>c q.1];simp(disch:=omega)only[ss]
theorem fO (n y m d:Int) (h:tF n y m d) (e:pA.f n=some (y,m,d,0,())):bF.f n=some (y,n-fst_ y+1,0,()):=by obtain⟨q1,q2,q3,q4,q5,q6⟩:=fE h;obtain⟨v1,v2,_⟩:=vB.1 h.1;have f:=yH y (by omega) (by omega);rw[bF.f_eq,e];simp(disch:=omega)only[ss,numJ y (by omega) (by omega)]
abbrev Dy :=Int×Int×Unit
def dyLt (a b:Dy):Prop:=a.1<b.1∨a.1=b.1∧a.2.1<b.2.1
def yC (f:Option (Bool×Unit)) (p:Prop):Prop:=∃b,f=some (b,())∧(b=true↔p)
theorem yC.iff {f:Option (Bool×Unit)} {p q:Prop} (h:yC f p) (e:p↔q):yC f q:=by obtain⟨b,h1,h2⟩:=h;exact⟨b,h1,h2.trans e⟩
def okI (l:List Int) (lo hi:Int) (z:Bool) (j:Nat):Prop:=lo≤l.getD j 0∧l.getD j 0≤hi∧(l.getD j 0=0→z=true)
def adjI (l:List Int) (j:Nat):Prop:=0<j→l.getD (j-1) 0<l.getD j 0
theorem qJ1 (l:List Int) (lo hi:Int) (z:Bool) (hl:l.length≤1000000):∀(k i:Nat),l.length-i=k→i≤l.length →
  yC (zA.l1 l lo hi z l l.length i) ((∀j,i≤j→j<l.length→okI l lo hi z j∧adjI l j)∧l.length≤60):=by
 intro k
 induction k with
 | zero=>
  intro i hk hil;rw[zA.l1_eq];simp(disch:=omega)only[ss];refine⟨_,rfl,?_⟩;rw[decide_eq_true_eq];exact⟨fun h=>⟨fun j h1 h2=>by omega,by omega⟩,fun h=>by omega⟩
 | succ k ih=>
  intro i hk hil;have hlt:i<l.length:=by omega
  have step:okI l lo hi z i∧adjI l i→yC (zA.l2 l lo hi z l l.length i false) ((∀j,i≤j→j<l.length→okI l lo hi z j∧adjI l j)∧l.length≤60):=fun h=>by
   rw[zA.l2_eq];simp(disch:=omega)only[ss];refine(ih (i+1) (by omega) (by omega)).iff ⟨fun q=>⟨fun j h1 h2=>?_,q.2⟩,fun q=>⟨fun j h1 h2=>q.1 j (by omega) h2,q.2⟩⟩;by_cases e:j=i
   ·subst e;exact h
   ·exact q.1 j (by omega) h2
  have stop:¬(okI l lo hi z i∧adjI l i)→yC (zA.l2 l lo hi z l l.length i true) ((∀j,i≤j→j<l.length→okI l lo hi z j∧adjI l j)∧l.length≤60):=fun h=>by rw[zA.l2_eq,cond_true];exact⟨false,rfl,by simp;intro q;exact absurd (q i (iX1 _) hlt) h⟩
  have last:okI l lo hi z i→yC (bif decide ((i:Int)>0)then(bif decide (0≤(i:Int)-1)then(zA.l2 l lo hi z l l.length i (decide (l.getD i 0≤l.getD (i-1) 0)))else none)else(zA.l2 l lo hi z l l.length i false)) ((∀j,i≤j→j<l.length→okI l lo hi z j∧adjI l j)∧l.length≤60):=fun h=>by
   by_cases h0:i=0
   ·simp(disch:=omega)only[ss];exact step ⟨h,fun q=>by omega⟩
   ·simp(disch:=omega)only[ss];by_cases c:l.getD i 0≤l.getD (i-1) 0
    ·rw[dp c];exact stop fun q=>by have:=q.2 (by omega);omega
    ·rw[dn c];exact step ⟨h,fun _=>by omega⟩
  rw[zA.l1_eq];simp(disch:=omega)only[ss];by_cases c1:l.getD i 0<lo
  ·rw[dp c1,cond_true];exact stop fun q=>by have:=q.1.1;omega
  ·by_cases c2:l.getD i 0>hi
   ·rw[dn c1,dp c2,cond_false,cond_true];exact stop fun q=>by have:=q.1.2.1;omega
   ·rw[dn c1,dn c2,cond_false,cond_false];by_cases c3:l.getD i 0=0
    ·rw[dp c3,cond_true]
     cases z with
     | false=>
      exact stop fun q=>by have:=q.1.2.2 c3;cases this
     | true=>exact last ⟨by omega,by omega,fun _=>rfl⟩
    ·rw[dn c3,cond_false];exact last ⟨by omega,by omega,fun q=>absurd q c3⟩
def wi (l:List Int) (lo hi:Int) (z:Bool):Prop:=(∀j,j<l.length→okI l lo hi z j∧adjI l j)∧l.length≤60
theorem vE (l:List Int) (lo hi:Int) (z:Bool) (hl:l.length≤1000000):yC (zA.f l lo hi z) (wi l lo hi z):=by have:=qJ1 l lo hi z hl _ 0 rfl (eX1 _);rw[sX1]at this;rw[zA.f_eq];exact this.iff ⟨fun h=>⟨fun j h2=>h.1 j (eX1 _) h2,h.2⟩,fun h=>⟨fun j _ h2=>h.1 j h2,h.2⟩⟩
def gD (l:List Dy) (j:Nat):Dy:=l.getD j ((0,0,()):Int×Int×Unit)
def okD (l:List Dy) (j:Nat):Prop:= -53≤(gD l j).1∧(gD l j).1≤53∧0≤(gD l j).2.1∧(gD l j).2.1≤6∧(0<j→dyLt (gD l (j-1)) (gD l j))
def dwi (l:List Dy):Prop:=(∀j,j<l.length→okD l j)∧l.length≤60
abbrev Rl :=Int×Int×Int×Int×Int×Bool×List Int×List Int×List Int×List Int×List Dy×List Int×List Int×List Int×List Int×Unit
def Gate (f:Option (Bool×Unit)) (p:Prop) (K:Option (Bool×Unit)):Prop:=(p→f=K)∧(¬p→f=some (false,()))
theorem Gate.iff {f K:Option (Bool×Unit)} {p q:Prop} (h:Gate f p K) (e:p↔q):Gate f q K:=⟨fun x=>h.1 (e.2 x),fun x=>h.2 fun y=>x (e.1 y)⟩
theorem cE1 {f g K:Option (Bool×Unit)} {p q:Prop} (h:yC f p) (k:Gate g q K):Gate (f.bind fun t=>bif !t.1 then some (false,())else g) (p∧q) K:=by
 obtain⟨b,h1,h2⟩:=h;rw[h1];simp only[wW1]
 cases b with
 | true=>exact⟨fun x=>k.1 x.2,fun x=>k.2 fun y=>x ⟨h2.1 rfl,y⟩⟩
 | false=>exact⟨fun x=>absurd (h2.2 x.1) (by simp),fun _=>rfl⟩
theorem mE {f g:Option (Bool×Unit)} {p q:Prop} (h:yC f p) (k:yC g q):yC (f.bind fun t=>bif t.1 then g else some (false,())) (p∧q):=by
 obtain⟨b,h1,h2⟩:=h;obtain⟨c,k1,k2⟩:=k;rw[h1];simp only[wW1]
 cases b with
 | true=>rw[cond_true];exact⟨c,k1,⟨fun x=>⟨h2.1 rfl,k2.1 x⟩,fun x=>k2.2 x.2⟩⟩
 | false=>exact⟨false,rfl,⟨fun x=>by simp at x,fun x=>absurd (h2.2 x.1) (by simp)⟩⟩
theorem vT {f:Option (Bool×Unit)} {p:Prop} (h:yC f p):yC (f.bind fun t=>some (t.1,())) p:=by obtain⟨b,h1,h2⟩:=h;exact⟨b,by rw[h1];rfl,h2⟩
def numd (f:Int) (we:List Int) (l:List Dy) (j:Nat):Prop:=(gD l j).1≠0→f=2∨f=1∧we.length=0
section
variable (f iv ct un wk : Int) (en : Bool) (mo we yd md : List Int) (dy : List Dy) (ho mi se po : List Int)
theorem zM1 (hl:dy.length≤1000000) (hw:we.length≤1000000):∀(k i:Nat),dy.length-i=k→i≤dy.length→(∀j,j<i→okD dy j) →
  yC (uA.l1 dy dy.length i (f,iv,ct,un,wk,en,mo,we,yd,md,dy,ho,mi,se,po,())) ((∀j,i≤j→j<dy.length→okD dy j∧numd f we dy j)∧dy.length≤60):=by
 intro k
 induction k with
 | zero=>
  intro i hk hil hpre;rw[uA.l1_eq];simp(disch:=omega)only[ss];refine⟨_,rfl,?_⟩;rw[decide_eq_true_eq];exact⟨fun h=>⟨fun j h1 h2=>by omega,by omega⟩,fun h=>by omega⟩
 | succ k ih=>
  intro i hk hil hpre;have hlt:i<dy.length:=by omega
  have hg:dy.getD i ((0,0,()):Int×Int×Unit)=gD dy i:=rfl;have hg1:dy.getD (i-1) ((0,0,()):Int×Int×Unit)=gD dy (i-1):=rfl;have stop:¬(okD dy i∧numd f we dy i)→yC (some (false,())) ((∀j,i≤j→j<dy.length→okD dy j∧numd f we dy j)∧dy.length≤60):=fun h=>
   ⟨false,rfl,by simp;intro q;exact absurd (q i (iX1 _) hlt) h⟩
  have go:okD dy i→numd f we dy i→yC (uA.l3 dy dy.length i false (f,iv,ct,un,wk,en,mo,we,yd,md,dy,ho,mi,se,po,())) ((∀j,i≤j→j<dy.length→okD dy j∧numd f we dy j)∧dy.length≤60):=fun h h'=>by
   rw[uA.l3_eq];simp(disch:=omega)only[ss];refine(ih (i+1) (by omega) (by omega) fun j hj=>?_).iff ⟨fun q=>⟨fun j h1 h2=>?_,q.2⟩,fun q=>⟨fun j h1 h2=>q.1 j (by omega) h2,q.2⟩⟩
   ·by_cases e:j=i
    ·subst e;exact h
    ·exact hpre j (by omega)
   ·by_cases e:j=i
    ·subst e;exact⟨h,h'⟩
    ·exact q.1 j (by omega) h2
  have l3t:uA.l3 dy dy.length i true (f,iv,ct,un,wk,en,mo,we,yd,md,dy,ho,mi,se,po,())=some (false,()):=by rw[uA.l3_eq,cond_true]
  have bad:∀a b,¬okD dy i→yC (uA.l2 dy dy.length i true (f,iv,ct,un,wk,en,mo,we,yd,md,dy,ho,mi,se,po,()) (a,b,())) ((∀j,i≤j→j<dy.length→okD dy j∧numd f we dy j)∧dy.length≤60):=fun a b h=>by rw[uA.l2_eq,cond_true];exact stop fun q=>h q.1
  have good:okD dy i→yC (uA.l2 dy dy.length i false (f,iv,ct,un,wk,en,mo,we,yd,md,dy,ho,mi,se,po,()) (gD dy i)) ((∀j,i≤j→j<dy.length→okD dy j∧numd f we dy j)∧dy.length≤60):=fun h=>by
   rw[uA.l2_eq,cond_false];by_cases c1:(gD dy i).1=0
   ·simp(disch:=omega)only[ss];exact go h fun q=>absurd c1 q
   ·by_cases c2:f=2
    ·simp(disch:=omega)only[ss];exact go h fun _=>.inl c2
    ·by_cases c3:f=1
     ·by_cases c4:(we.length:Int)>0
      ·simp(disch:=omega)only[ss,l3t];exact stop fun q=>by rcases q.2 c1 with q | q <;> omega
      ·simp(disch:=omega)only[ss];exact go h fun _=>.inr ⟨c3,by omega⟩
     ·simp(disch:=omega)only[ss,l3t];exact stop fun q=>by rcases q.2 c1 with q | q <;> omega
  rw[uA.l1_eq];simp(disch:=omega)only[ss,hg];by_cases c1:(gD dy i).1 < -53
  ·rw[dp c1,cond_true];exact bad _ _ fun q=>by have:=q.1;omega
  ·by_cases c2:(gD dy i).1>53
   ·rw[dn c1,dp c2,cond_false,cond_true];exact bad _ _ fun q=>by have:=q.2.1;omega
   ·by_cases c3:(gD dy i).2.1<0
    ·rw[dn c1,dn c2,dp c3,cond_false,cond_false,cond_true];exact bad _ _ fun q=>by have:=q.2.2.1;omega
    ·by_cases c4:(gD dy i).2.1>6
     ·rw[dn c1,dn c2,dn c3,dp c4,cond_false,cond_false,cond_false,cond_true];exact bad _ _ fun q=>by have:=q.2.2.2.1;omega
     ·rw[dn c1,dn c2,dn c3,dn c4,cond_false,cond_false,cond_false,cond_false];by_cases h0:i=0
      ·simp(disch:=omega)only[ss];exact good ⟨by omega,by omega,by omega,by omega,fun q=>by omega⟩
      ·have hp:=hpre (i-1) (by omega);have b1:=hp.1;have b2:=hp.2.1;have b3:=hp.2.2.1;have b4:=hp.2.2.2.1;simp(disch:=omega)only[ss,hg1,kK.f_eq];by_cases c6:(gD dy (i-1)).1=(gD dy i).1
       ·simp(disch:=omega)only[ss];by_cases c7:(gD dy (i-1)).2.1-(gD dy i).2.1≥0
        ·rw[dp c7];exact bad _ _ fun q=>by have:=q.2.2.2.2 (by omega);unfold dyLt at this;omega
        ·rw[dn c7];exact good ⟨by omega,by omega,by omega,by omega,fun _=>by unfold dyLt;omega⟩
       ·simp(disch:=omega)only[ss];by_cases c7:(gD dy (i-1)).1-(gD dy i).1≥0
        ·rw[dp c7];exact bad _ _ fun q=>by have:=q.2.2.2.2 (by omega);unfold dyLt at this;omega
        ·rw[dn c7];exact good ⟨by omega,by omega,by omega,by omega,fun _=>by unfold dyLt;omega⟩
def bG1 :Prop:=wi mo 1 12 false∧wi we (-53) 53 false∧wi yd (-366) 366 false∧wi md (-31) 31 false∧wi ho 0 23 true∧wi mi 0 59 true∧wi se 0 59 true∧wi po (-366) 366 false∧(dwi dy ∧ ∀j,j<dy.length→numd f we dy j)
def wU :Prop:=mo.length≤100000∧we.length≤100000∧yd.length≤100000∧md.length≤100000∧dy.length≤100000∧ho.length≤100000∧mi.length≤100000∧se.length≤100000∧po.length≤100000
theorem qS (h:wU mo we yd md dy ho mi se po):yC (zE.f (f,iv,ct,un,wk,en,mo,we,yd,md,dy,ho,mi,se,po,())) (bG1 f mo we yd md dy ho mi se po):=by
 obtain⟨h1,h2,h3,h4,h5,h6,h7,h8,h9⟩:=h;have hD:=zM1 f iv ct un wk en mo we yd md dy ho mi se po (by omega) (by omega) _ 0 rfl (eX1 _) fun j hj=>by omega
 rw[sX1]at hD;have hD2:yC (uA.f (f,iv,ct,un,wk,en,mo,we,yd,md,dy,ho,mi,se,po,())) (dwi dy ∧ ∀j,j<dy.length→numd f we dy j):=by rw[uA.f_eq];exact hD.iff ⟨fun q=>⟨⟨fun j hj=>(q.1 j (eX1 _) hj).1,q.2⟩,fun j hj=>(q.1 j (eX1 _) hj).2⟩,fun q=>⟨fun j _ hj=>⟨q.1.1 j hj,q.2 j hj⟩,q.1.2⟩⟩
 rw[zE.f_eq];exact mE (vE mo 1 12 false (by omega)) (mE (vE we (-53) 53 false (by omega)) (mE (vE yd (-366) 366 false (by omega)) (mE (vE md (-31) 31 false (by omega)) (mE (vE ho 0 23 true (by omega)) (mE (vE mi 0 59 true (by omega)) (mE (vE se 0 59 true (by omega)) (mE (vE po (-366) 366 false (by omega)) (vT hD2))))))))
def numP :Prop:=(1≤f∧f≤7∧1≤iv∧iv≤1000∧0≤ct∧ct≤4096∧0≤wk∧wk≤6)∧(en=true→(-62135596800≤un∧un≤253402300799)∧ct=0)∧(en=false→un=0)
theorem wG1 :yC (gB.f (f,iv,ct,un,wk,en,mo,we,yd,md,dy,ho,mi,se,po,())) (numP f iv ct un wk en):=by
 have l1t:gB.l1 true (f,iv,ct,un,wk,en,mo,we,yd,md,dy,ho,mi,se,po,())=some (false,()):=by rw[gB.l1_eq,cond_true]
 have no:¬(1≤f∧f≤7∧1≤iv∧iv≤1000∧0≤ct∧ct≤4096∧0≤wk∧wk≤6)→yC (some (false,())) (numP f iv ct un wk en):=fun h=>⟨false,rfl,⟨fun q=>by simp at q,fun q=>absurd q.1 h⟩⟩
 rw[gB.f_eq];dsimp only;by_cases c:1≤f∧f≤7∧1≤iv∧iv≤1000∧0≤ct∧ct≤4096∧0≤wk∧wk≤6
 ·obtain⟨c1,c2,c3,c4,c5,c6,c7,c8⟩:=c;simp(disch:=omega)only[ss,gB.l1_eq,qE.f_eq]
  cases en with
  | true=>
   simp(disch:=omega)only[ss];by_cases d1:un ≥ -62135596800
   ·by_cases d2:un≤253402300799
    ·simp(disch:=omega)only[ss];refine⟨_,rfl,?_⟩;rw[decide_eq_true_eq];exact⟨fun q=>⟨⟨c1,c2,c3,c4,c5,c6,c7,c8⟩,fun _=>⟨⟨by omega,d2⟩,q⟩,fun q=>by cases q⟩,fun q=>(q.2.1 rfl).2⟩
    ·simp(disch:=omega)only[ss];exact⟨false,rfl,⟨fun q=>by simp at q,fun q=>by have:=(q.2.1 rfl).1;omega⟩⟩
   ·simp(disch:=omega)only[ss];exact⟨false,rfl,⟨fun q=>by simp at q,fun q=>by have:=(q.2.1 rfl).1;omega⟩⟩
  | false=>
   simp(disch:=omega)only[ss];refine⟨_,rfl,?_⟩;rw[decide_eq_true_eq];exact⟨fun q=>⟨⟨c1,c2,c3,c4,c5,c6,c7,c8⟩,(fun q=>by cases q),fun _=>q⟩,fun q=>q.2.2 rfl⟩
 ·have hb:∀{p:Prop} [Decidable p] {x:Option (Bool×Unit)},(¬p→yC x (numP f iv ct un wk en))→(p→yC (some (false,())) (numP f iv ct un wk en))→yC (bif decide p then(some (false,()))else x) (numP f iv ct un wk en):=fun {p} _ {x} h1 h2=>by
   by_cases hp:p
   ·rw[dp hp,cond_true];exact h2 hp
   ·rw[dn hp,cond_false];exact h1 hp
  have hn:=no c;rw[l1t];refine hb (fun d1=>hb (fun d2=>hb (fun d3=>hb (fun d4=>hb (fun d5=>hb (fun d6=>hb (fun d7=>?_) fun _=>hn) fun _=>hn) fun _=>hn) fun _=>hn) fun _=>hn) fun _=>hn) fun _=>hn
  have:wk>6:=by omega
  rw[dp this,l1t];exact hn
def mayP :Prop:=numP f iv ct un wk en∧bG1 f mo we yd md dy ho mi se po∧(0<we.length→f=1)∧(0<yd.length → ¬(2≤f∧f≤4))∧(0<md.length→f≠3)
theorem eD1 (h:wU mo we yd md dy ho mi se po):Gate (nA.f (f,iv,ct,un,wk,en,mo,we,yd,md,dy,ho,mi,se,po,())) (mayP f iv ct un wk en mo we yd md dy ho mi se po) (nA.l5 (f,iv,ct,un,wk,en,mo,we,yd,md,dy,ho,mi,se,po,())):=by
 have l1t:nA.l1 true (f,iv,ct,un,wk,en,mo,we,yd,md,dy,ho,mi,se,po,())=some (false,()):=by rw[nA.l1_eq,cond_true]
 have l2t:nA.l2 true (f,iv,ct,un,wk,en,mo,we,yd,md,dy,ho,mi,se,po,())=some (false,()):=by rw[nA.l2_eq,cond_true]
 have l3t:nA.l3 true (f,iv,ct,un,wk,en,mo,we,yd,md,dy,ho,mi,se,po,())=some (false,()):=by rw[nA.l3_eq,cond_true]
 have l4t:nA.l4 true (f,iv,ct,un,wk,en,mo,we,yd,md,dy,ho,mi,se,po,())=some (false,()):=by rw[nA.l4_eq,cond_true]
 have l4f:nA.l4 false (f,iv,ct,un,wk,en,mo,we,yd,md,dy,ho,mi,se,po,())=nA.l5 (f,iv,ct,un,wk,en,mo,we,yd,md,dy,ho,mi,se,po,()):=by rw[nA.l4_eq,cond_false]
 have g3:Gate (nA.l3 false (f,iv,ct,un,wk,en,mo,we,yd,md,dy,ho,mi,se,po,())) (0<md.length→f≠3) (nA.l5 (f,iv,ct,un,wk,en,mo,we,yd,md,dy,ho,mi,se,po,())):=by
  rw[nA.l3_eq,cond_false];by_cases c:(md.length:Int)>0
  ·rw[dp c,cond_true];by_cases c2:f=3
   ·rw[dp c2,l4t];exact⟨fun q=>absurd c2 (q (by omega)),fun _=>rfl⟩
   ·rw[dn c2,l4f];exact⟨fun _=>rfl,fun q=>absurd (fun _=>c2) q⟩
  ·rw[dn c,cond_false,l4f];exact⟨fun _=>rfl,fun q=>absurd (fun x=>by omega) q⟩
 have g2:Gate (nA.l2 false (f,iv,ct,un,wk,en,mo,we,yd,md,dy,ho,mi,se,po,())) ((0<yd.length → ¬(2≤f∧f≤4))∧(0<md.length→f≠3)) (nA.l5 (f,iv,ct,un,wk,en,mo,we,yd,md,dy,ho,mi,se,po,())):=by
  rw[nA.l2_eq,cond_false];by_cases c:(yd.length:Int)>0
  ·rw[dp c,cond_true];by_cases c2:f≥2
   ·rw[dp c2,cond_true];by_cases c3:f≤4
    ·rw[dp c3,l3t];exact⟨fun q=>absurd ⟨by omega,c3⟩ (q.1 (by omega)),fun _=>rfl⟩
    ·rw[dn c3];exact g3.iff ⟨fun q=>⟨fun _=>by omega,q⟩,fun q=>q.2⟩
   ·rw[dn c2,cond_false];exact g3.iff ⟨fun q=>⟨fun _=>by omega,q⟩,fun q=>q.2⟩
  ·rw[dn c,cond_false];exact g3.iff ⟨fun q=>⟨fun x=>by omega,q⟩,fun q=>q.2⟩
 have g1:Gate (nA.l1 false (f,iv,ct,un,wk,en,mo,we,yd,md,dy,ho,mi,se,po,())) ((0<we.length→f=1)∧(0<yd.length → ¬(2≤f∧f≤4))∧(0<md.length→f≠3)) (nA.l5 (f,iv,ct,un,wk,en,mo,we,yd,md,dy,ho,mi,se,po,())):=by
  rw[nA.l1_eq,cond_false];by_cases c:(we.length:Int)>0
  ·rw[dp c,cond_true];by_cases c2:f=1
   ·rw[dp c2,gX1];exact g2.iff ⟨fun q=>⟨fun _=>c2,q⟩,fun q=>q.2⟩
   ·rw[dn c2,dY1,l2t];exact⟨fun q=>absurd (q.1 (by omega)) c2,fun _=>rfl⟩
  ·rw[dn c,cond_false];exact g2.iff ⟨fun q=>⟨fun x=>by omega,q⟩,fun q=>q.2⟩
 have hL:Gate ((zE.f (f,iv,ct,un,wk,en,mo,we,yd,md,dy,ho,mi,se,po,())).bind fun t2=>nA.l1 (!t2.1) (f,iv,ct,un,wk,en,mo,we,yd,md,dy,ho,mi,se,po,())) (bG1 f mo we yd md dy ho mi se po∧(0<we.length→f=1)∧(0<yd.length → ¬(2≤f∧f≤4))∧(0<md.length→f≠3)) (nA.l5 (f,iv,ct,un,wk,en,mo,we,yd,md,dy,ho,mi,se,po,())):=by
  have:=cE1 (qS f iv ct un wk en mo we yd md dy ho mi se po h) g1;obtain⟨b,h1,_⟩:=qS f iv ct un wk en mo we yd md dy ho mi se po h;rw[h1]at this ⊢;simp only[wW1]at this ⊢
  cases b with
  | true=>exact this
  | false=>rw[dY1,l1t];exact this
 rw[nA.f_eq];have:=cE1 (wG1 f iv ct un wk en mo we yd md dy ho mi se po) hL;simp only[l1t];exact this
end
theorem bE1 (r:Rl) (h:wU r.2.2.2.2.2.2.1 r.2.2.2.2.2.2.2.1 r.2.2.2.2.2.2.2.2.1 r.2.2.2.2.2.2.2.2.2.1 r.2.2.2.2.2.2.2.2.2.2.1 r.2.2.2.2.2.2.2.2.2.2.2.1 r.2.2.2.2.2.2.2.2.2.2.2.2.1 r.2.2.2.2.2.2.2.2.2.2.2.2.2.1 r.2.2.2.2.2.2.2.2.2.2.2.2.2.2.1):∃b,nA.f r=some (b,()):=by
 obtain⟨f,iv,ct,un,wk,en,mo,we,yd,md,dy,ho,mi,se,po,⟨⟩⟩:=r;have g1:=eD1 f iv ct un wk en mo we yd md dy ho mi se po h;by_cases hp:mayP f iv ct un wk en mo we yd md dy ho mi se po
 ·rw[g1.1 hp,nA.l5_eq];have e7:∃b,nA.l7 (f,iv,ct,un,wk,en,mo,we,yd,md,dy,ho,mi,se,po,())=some (b,()):=by
   rw[nA.l7_eq];cases decide (f>4)with
   | true=>exact⟨_,rfl⟩
   | false=>exact⟨_,rfl⟩
  have e6:∀c,∃b,nA.l6 c (f,iv,ct,un,wk,en,mo,we,yd,md,dy,ho,mi,se,po,())=some (b,()):=fun c=>by
   rw[nA.l6_eq]
   cases c with
   | true=>exact⟨_,rfl⟩
   | false=>exact e7
  cases decide ((po.length:Int)>0)with
  | true=>exact e6 _
  | false=>exact e6 _
 ·exact⟨false,g1.2 hp⟩
theorem cN1 (l:List Int) (x:Int) (hl:l.length≤1000000):∀(k i:Nat),l.length-i=k→i≤l.length → ∃n:Int,kB.l1 l x l.length i=some (n,())∧(n≥0↔x∈l.drop i):=by
 intro k
 induction k with
 | zero=>
  intro i hk hil;refine⟨-1,?_,?_⟩
  ·rw[kB.l1_eq];simp(disch:=omega)only[ss]
  ·rw[xZ1 (by omega)];simp
 | succ k ih=>
  intro i hk hil;have hlt:i<l.length:=by omega
  rw[kB.l1_eq,pB 0 hlt];by_cases c:x=l.getD i 0
  ·refine⟨i,?_,?_⟩
   ·simp(disch:=omega)only[ss]
   ·exact⟨fun _=>by rw[c];exact bX1 ..,fun _=>by omega⟩
  ·obtain⟨n,h1,h2⟩:=ih (i+1) (by omega) (by omega);rw[mY1,nY1]at h1;refine⟨n,?_,?_⟩
   ·simp(disch:=omega)only[ss,h1]
   ·rw[h2,cX1];exact⟨.inr,fun h=>h.resolve_left c⟩
theorem yD (l:List Int) (x:Int) (hl:l.length≤1000000):dB.f l x=some (decide (x∈l),()):=by obtain⟨n,h1,h2⟩:=cN1 l x hl _ 0 rfl (eX1 _);rw[sX1]at h1;rw[cY1]at h2;rw[dB.f_eq,kB.f_eq,h1];simp only[wW1];rw[decide_eq_decide.2 h2]
def hasP (l:List Int) (n all:Int):Prop:=l=[]∨n∈l∨n-all-1∈l
theorem oR (l:List Int) (n all:Int) (hl:l.length≤1000000) (hn:0≤n∧n≤1000) (ha:0≤all∧all≤1000):yC (aJ.f l n all) (hasP l n all):=by
 unfold hasP;rw[aJ.f_eq];by_cases c:l=[]
 ·subst c;rw[gZ1];exact⟨true,by simp(disch:=omega)only[ss],by simp⟩
 ·have hp:¬(l.length:Int)=0:=by have:=hA2.2 c;omega
  by_cases c1:n∈l
  ·exact⟨true,by simp(disch:=omega)only[ss,yD l n hl,dp c1],by simp[c1]⟩
  ·refine⟨decide (n-all-1∈l),?_,?_⟩
   ·simp(disch:=omega)only[ss,yD l _ hl,dn c1]
   ·rw[decide_eq_true_iff];simp[c,c1]
theorem jQ (y:Int) (hy:0≤y):rD.f y=some (cum y 13,()):=by
 rw[rD.f_eq,yY y hy];have h3:(3:Int)≤13:=by omega
 unfold cum cumT
 cases oO y with
 | true=>simp
 | false=>simp
theorem vV (n y m d:Int) (e:pA.f n=some (y,m,d,0,())):aI.f n=some ((n,y,m,d,wk n,()),true,()):=by rw[aI.f_eq,e];simp only[wW1];rw[oF];rfl
theorem rP1 (n:Int) (h:¬(-719162≤n∧n≤2932896)):aI.f n=some ((n,0,0,0,wk n,()),false,()):=by rw[aI.f_eq,(pJ1 n h).1];simp only[wW1];rw[oF];rfl
def wdP (f:Int) (mo:List Int) (dy:List Dy) (n y m d:Int):Prop:=
 dy=[] ∨ ∃x∈dy,x.2.1=wk n∧(x.1=0∨x.1=((if f=2∨mo≠[]then d else n-fst_ y+1)-1)/7+1∨x.1 = -(((if f=2∨mo≠[]then mlen y m else cum y 13)-(if f=2∨mo≠[]then d else n-fst_ y+1))/7+1))
theorem cH1 (fr bk n y m d:Int) (l:List Dy) (hl:l.length≤1000000):∀(k i:Nat),l.length-i=k→i≤l.length →
  yC (mA.l3 fr bk l l.length i (n,y,m,d,wk n,())) (∃x∈l.drop i,x.2.1=wk n∧(x.1=0∨x.1=fr∨x.1=bk)):=by
 intro k
 induction k with
 | zero=>
  intro i hk hil;rw[mA.l3_eq,xZ1 (by omega)];exact⟨false,by simp(disch:=omega)only[ss],by simp⟩
 | succ k ih=>
  intro i hk hil;have hlt:i<l.length:=by omega
  obtain⟨b,h1,h2⟩:=ih (i+1) (by omega) (by omega);rw[mY1,nY1]at h1;rw[mA.l3_eq,pB ((0,0,()):Dy) hlt];generalize hx:l.getD i ((0,0,()):Dy)=x;have hx':l.getD i ((0,0,()):Int×Int×Unit)=x:=hx;by_cases c:x.2.1=wk n∧(x.1=0∨x.1=fr∨x.1=bk)
  ·refine⟨true,?_,by simp only[true_iff];exact⟨x,bX1 ..,c⟩⟩;obtain⟨c1,c2⟩:=c;by_cases d0:x.1=0
   ·simp(disch:=omega)only[ss,hx',mA.l4_eq]
   ·by_cases d1:x.1=fr
    ·simp(disch:=omega)only[ss,hx',mA.l4_eq]
    ·have d2:x.1=bk:=by omega
     simp(disch:=omega)only[ss,hx',mA.l4_eq]
  ·refine⟨b,?_,?_⟩
   ·by_cases c1:x.2.1=wk n
    ·have d0:¬x.1=0:=fun q=>c ⟨c1,.inl q⟩
     have d1:¬x.1=fr:=fun q=>c ⟨c1,.inr (.inl q)⟩
     have d2:¬x.1=bk:=fun q=>c ⟨c1,.inr (.inr q)⟩
     simp(disch:=omega)only[ss,hx',mA.l4_eq,h1]
    ·simp(disch:=omega)only[ss,hx',mA.l4_eq,h1]
   ·rw[h2];constructor
    ·rintro⟨z,hz,h⟩;exact⟨z,yW1 _ hz,h⟩
    ·rintro⟨z,hz,h⟩;rcases cX1.1 hz with e | hz
     ·exact absurd (e ▸ h) c
     ·exact⟨z,hz,h⟩
section
variable (f iv ct un wkst : Int) (en : Bool) (mo we yd md : List Int) (dy : List Dy) (ho mi se po : List Int)
theorem hG1 (n y m d:Int) (hs:mo.length≤100000∧dy.length≤100000) (h:tF n y m d) (e:pA.f n=some (y,m,d,0,())):
  yC (mA.f (f,iv,ct,un,wkst,en,mo,we,yd,md,dy,ho,mi,se,po,()) (n,y,m,d,wk n,())) (wdP f mo dy n y m d):=by
 obtain⟨q1,q2,q3,q4,q5,q6⟩:=fE h;obtain⟨v1,v2,v3,v4⟩:=vB.1 h.1;have hy:=cI y (by omega);have h13:=oF1 y;have hs13:=iF y v1;have hml:=wH y m;have hl0:=cH1;unfold wdP;rw[mA.f_eq];by_cases c:dy=[]
 ·subst c;exact⟨true,by simp(disch:=omega)only[ss,gZ1],by simp⟩
 ·have hp:¬(dy.length:Int)=0:=by have:=hA2.2 c;omega
  have go:∀at_ all:Int,1≤at_→at_≤all→all≤400→yC (mA.l2 at_ all (f,iv,ct,un,wkst,en,mo,we,yd,md,dy,ho,mi,se,po,()) (n,y,m,d,wk n,())) (∃x∈dy,x.2.1=wk n∧(x.1=0∨x.1=(at_-1)/7+1∨x.1 = -((all-at_)/7+1))):=fun at_ all a1 a2 a3=>by
   have:=cH1 ((at_-1)/7+1) (-((all-at_)/7+1)) n y m d dy (by omega) _ 0 rfl (eX1 _);rw[sX1,cY1]at this;have e0:0-((all-at_)/7+1) = -((all-at_)/7+1):=by omega
   rw[mA.l2_eq];simp(disch:=omega)only[ss,tdn (show(0:Int)≤at_-1 by omega),tdn (show(0:Int)≤all-at_ by omega),e0];exact this
  have e1:=fO n y m d h e;have e2:=jQ y (by omega);have e3:=jF y m (by omega);by_cases c2:f=2∨mo≠[]
  ·have l1:mA.l1 (n-fst_ y+1) (cum y 13) true (f,iv,ct,un,wkst,en,mo,we,yd,md,dy,ho,mi,se,po,()) (n,y,m,d,wk n,())=mA.l2 d (mlen y m) (f,iv,ct,un,wkst,en,mo,we,yd,md,dy,ho,mi,se,po,()) (n,y,m,d,wk n,()):=by rw[mA.l1_eq];simp(disch:=omega)only[ss,e3]
   rw[if_pos c2,if_pos c2];have g:=go d (mlen y m) v3 v4 (by omega);have hc:(dy=[] ∨ ∃x∈dy,x.2.1=wk n∧(x.1=0∨x.1=(d-1)/7+1∨x.1 = -((mlen y m-d)/7+1)))↔(∃x∈dy,x.2.1=wk n∧(x.1=0∨x.1=(d-1)/7+1∨x.1 = -((mlen y m-d)/7+1))):=⟨fun h=>h.resolve_left c,.inr⟩
   refine yC.iff ?_ hc.symm;by_cases c3:f=2
   ·simp(disch:=omega)only[ss,e1,e2,l1];exact g
   ·have hm:mo≠[]:=c2.resolve_left c3;have hmp:(mo.length:Int)>0:=by have:=hA2.2 hm;omega
    simp(disch:=omega)only[ss,e1,e2,l1];exact g
  ·rw[if_neg c2,if_neg c2];have c3:¬f=2:=fun q=>c2 (.inl q)
   have c4:mo=[]:=Classical.byContradiction fun q=>c2 (.inr q)
   subst c4;have l1:mA.l1 (n-fst_ y+1) (cum y 13) false (f,iv,ct,un,wkst,en,[],we,yd,md,dy,ho,mi,se,po,()) (n,y,m,d,wk n,())=mA.l2 (n-fst_ y+1) (cum y 13) (f,iv,ct,un,wkst,en,[],we,yd,md,dy,ho,mi,se,po,()) (n,y,m,d,wk n,()):=by rw[mA.l1_eq,cond_false]
   have g:=go (n-fst_ y+1) (cum y 13) (by omega) (by omega) (by omega);have hc:(dy=[] ∨ ∃x∈dy,x.2.1=wk n∧(x.1=0∨x.1=(n-fst_ y+1-1)/7+1∨x.1 = -((cum y 13-(n-fst_ y+1))/7+1)))↔(∃x∈dy,x.2.1=wk n∧(x.1=0∨x.1=(n-fst_ y+1-1)/7+1∨x.1 = -((cum y 13-(n-fst_ y+1))/7+1))):=⟨fun h=>h.resolve_left c,.inr⟩
   refine yC.iff ?_ hc.symm;have hnil:(([]:List Int).length:Int)=0:=rfl;simp(disch:=omega)only[ss,e1,e2,hnil,l1];exact g
def stP (m0 d0 w0 n m d:Int):Prop:=(yd≠[]∨md≠[]∨dy≠[])∨((we≠[]∧wk n=w0)∨(we=[]∧((f=1∧d=d0∧(mo≠[]∨m=m0))∨(f=2∧d=d0)∨(f=3∧wk n=w0)∨(f≠1∧f≠2∧f≠3))))
theorem oG {α:Type} {l:List α}:l≠[]↔(l.length:Int)>0:=by rw[←hA2];omega
theorem sE1 (s sec n0 y0 m0 d0 w0 n y m d:Int) (hs:mo.length≤100000∧we.length≤100000∧yd.length≤100000∧md.length≤100000∧dy.length≤100000):
  yC (sD.f ((f,iv,ct,un,wkst,en,mo,we,yd,md,dy,ho,mi,se,po,()),s,(n0,y0,m0,d0,w0,()),sec,()) (n,y,m,d,wk n,())) (stP f mo we yd md dy m0 d0 w0 n m d):=by
 unfold stP;rw[sD.f_eq];by_cases c:yd≠[]∨md≠[]∨dy≠[]
 ·have hp:(yd.length:Int)+(md.length:Int)+(dy.length:Int)>0:=by rw[oG,oG,oG]at c;omega
  exact⟨true,by simp(disch:=omega)only[ss],by simp[c]⟩
 ·have hp:¬(yd.length:Int)+(md.length:Int)+(dy.length:Int)>0:=by rw[oG,oG,oG]at c;omega
  by_cases c1:we=[]
  ·subst c1;have hnil:(([]:List Int).length:Int)=0:=rfl;by_cases f1:f=1
   ·subst f1;by_cases dd:d=d0
    ·by_cases mm_:mo=[]
     ·subst mm_;refine⟨decide (m=m0),by simp(disch:=omega)only[ss,hnil],?_⟩;rw[decide_eq_true_iff];simp[c,dd]
     ·have hmp:(mo.length:Int)>0:=oG.1 mm_;exact⟨true,by simp(disch:=omega)only[ss,hnil],by simp[dd,mm_]⟩
    ·exact⟨false,by simp(disch:=omega)only[ss,hnil],by simp[c,dd]⟩
   ·by_cases f2:f=2
    ·subst f2;refine⟨decide (d=d0),by simp(disch:=omega)only[ss,hnil],?_⟩;rw[decide_eq_true_iff];simp[c]
    ·by_cases f3:f=3
     ·subst f3;refine⟨decide (wk n=w0),by simp(disch:=omega)only[ss,hnil],?_⟩;rw[decide_eq_true_iff];simp[c]
     ·exact⟨true,by simp(disch:=omega)only[ss,hnil],by simp[f1,f2,f3]⟩
  ·have hwp:(we.length:Int)>0:=oG.1 c1;refine⟨decide (wk n=w0),by simp(disch:=omega)only[ss],?_⟩;rw[decide_eq_true_iff];simp[c,c1]
def wkP (n:Int):Prop:=we=[] ∨ ∃Y k,mT n wkst Y k∧1≤Y∧Y≤9999∧hasP we k (wks Y wkst)
theorem jH1 (n y m d:Int) (hs:we.length≤100000) (h:tF n y m d) (hw:0≤wkst∧wkst≤6):
  yC (yF.f (f,iv,ct,un,wkst,en,mo,we,yd,md,dy,ho,mi,se,po,()) (n,y,m,d,wk n,())) (wkP wkst we n):=by
 obtain⟨q1,q2,q3,q4,q5,q6⟩:=fE h;unfold wkP;rw[yF.f_eq];by_cases c:we=[]
 ·subst c;exact⟨true,by simp(disch:=omega)only[ss,gZ1],by simp⟩
 ·have hwp:(we.length:Int)>0:=oG.1 c;obtain⟨Y,k,w1_,w2,w3,w4,w5,w6,_⟩:=sR n wkst q5 q6 hw.1 hw.2;have hW:=lF1 Y wkst;by_cases cY:1≤Y∧Y≤9999
  ·rw[if_pos ⟨cY,hw⟩]at hW;have hb:=hT1 Y wkst (by omega);obtain⟨b,h1,h2⟩:=oR we k (wks Y wkst) (by omega) (by omega) (by omega);refine⟨b,by simp(disch:=omega)only[ss,w6,hW,h1],?_⟩;rw[h2];constructor
   ·exact fun h=>.inr ⟨Y,k,w1_,cY.1,cY.2,h⟩
   ·rintro(q | ⟨Y',k',x1,x2,x3,x4⟩)
    ·exact absurd q c
    ·obtain⟨e1,e2⟩:=lM w2 (by omega) w1_ x1;rw[e1,e2];exact x4
  ·rw[if_neg fun q=>cY q.1]at hW;refine⟨false,by simp(disch:=omega)only[ss,w6,hW],?_⟩;simp only[xX1,false_iff];rintro(q | ⟨Y',k',x1,x2,x3,_⟩)
   ·exact c q
   ·obtain⟨e1,_⟩:=lM w2 (by omega) w1_ x1;exact cY (by omega)
end
def yK (r:Rl):Prop:=wU r.2.2.2.2.2.2.1 r.2.2.2.2.2.2.2.1 r.2.2.2.2.2.2.2.2.1 r.2.2.2.2.2.2.2.2.2.1 r.2.2.2.2.2.2.2.2.2.2.1 r.2.2.2.2.2.2.2.2.2.2.2.1 r.2.2.2.2.2.2.2.2.2.2.2.2.1 r.2.2.2.2.2.2.2.2.2.2.2.2.2.1 r.2.2.2.2.2.2.2.2.2.2.2.2.2.2.1
theorem kT1 {r:Rl} (hs:yK r) (hM:nA.f r=some (true,())):mayP r.1 r.2.1 r.2.2.1 r.2.2.2.1 r.2.2.2.2.1 r.2.2.2.2.2.1 r.2.2.2.2.2.2.1 r.2.2.2.2.2.2.2.1 r.2.2.2.2.2.2.2.2.1 r.2.2.2.2.2.2.2.2.2.1 r.2.2.2.2.2.2.2.2.2.2.1 r.2.2.2.2.2.2.2.2.2.2.2.1 r.2.2.2.2.2.2.2.2.2.2.2.2.1 r.2.2.2.2.2.2.2.2.2.2.2.2.2.1 r.2.2.2.2.2.2.2.2.2.2.2.2.2.2.1:=by
 have g:=eD1 r.1 r.2.1 r.2.2.1 r.2.2.2.1 r.2.2.2.2.1 r.2.2.2.2.2.1 r.2.2.2.2.2.2.1 r.2.2.2.2.2.2.2.1 r.2.2.2.2.2.2.2.2.1 r.2.2.2.2.2.2.2.2.2.1 r.2.2.2.2.2.2.2.2.2.2.1 r.2.2.2.2.2.2.2.2.2.2.2.1 r.2.2.2.2.2.2.2.2.2.2.2.2.1 r.2.2.2.2.2.2.2.2.2.2.2.2.2.1 r.2.2.2.2.2.2.2.2.2.2.2.2.2.2.1 hs;refine Classical.byContradiction fun q=>?_
 have h1:nA.f r=some (false,()):=g.2 q;rw[hM]at h1;cases h1
abbrev inT (t:Int):Prop:= -62135596800≤t∧t≤253402300799
theorem rJ {t:Int} (h:inT t): -719162≤t/86400∧t/86400≤2932896:=by unfold inT at h;omega
theorem zH (r:Rl) (s:Int) (hM:nA.f r=some (true,())) (ht:inT s) (y m d:Int) (e:pA.f (s/86400)=some (y,m,d,0,())):
  mD.f r s=some ((r,s,(s/86400,y,m,d,wk (s/86400),()),s%86400,()),true,()):=by
 have hS:qE.f s=some (true,()):=by rw[(cU s).1,dp ht]
 have hD:=(wF s (by unfold inT at ht;omega) (by unfold inT at ht;omega)).1;rw[mD.f_eq,hM];simp(disch:=omega)only[ss,hS,mD.l1_eq,hD,vV _ _ _ _ e]
theorem qR1 (r:Rl) (s:Int) (b:Bool) (hM:nA.f r=some (b,())) (h:¬(b=true∧inT s)):mD.f r s=some (((0,0,0,0,0,false,[],[],[],[],[],[],[],[],[],()),0,(0,0,0,0,0,()),0,()),false,()):=by
 rw[mD.f_eq,hM]
 cases b with
 | false=>simp(disch:=omega)only[ss,mD.l1_eq]
 | true=>
  have hS:qE.f s=some (false,()):=by rw[(cU s).1,dn (show ¬inT s from fun q=>h ⟨rfl,q⟩)]
  simp(disch:=omega)only[ss,hS,mD.l1_eq]
section
variable (f iv ct un wkst : Int) (en : Bool) (mo we yd md : List Int) (dy : List Dy) (ho mi se po : List Int)
def fitP (m0 d0 w0 n y m d:Int):Prop:=(mo=[]∨m∈mo)∧hasP yd (n-fst_ y+1) (cum y 13)∧hasP md d (mlen y m)∧wdP f mo dy n y m d∧stP f mo we yd md dy m0 d0 w0 n m d∧wkP wkst we n
theorem iH1 (s sec n0 y0 m0 d0 w0 n y m d:Int) (hs:wU mo we yd md dy ho mi se po) (hw:0≤wkst∧wkst≤6) (h:tF n y m d) (e:pA.f n=some (y,m,d,0,())):
  yC (aB.f ((f,iv,ct,un,wkst,en,mo,we,yd,md,dy,ho,mi,se,po,()),s,(n0,y0,m0,d0,w0,()),sec,()) n) (fitP f wkst mo we yd md dy m0 d0 w0 n y m d):=by
 obtain⟨k1,k2,k3,k4,k5,k6,k7,k8,k9⟩:=hs;obtain⟨q1,q2,q3,q4,q5,q6⟩:=fE h;obtain⟨v1,v2,v3,v4⟩:=vB.1 h.1;have h13:=oF1 y;have hs13:=iF y v1;have hml:=wH y m;have t1:=oR yd (n-fst_ y+1) (cum y 13) (by omega) (by omega) (by omega);have t2:=oR md d (mlen y m) (by omega) (by omega) (by omega);have t3:=hG1 f iv ct un wkst en mo we yd md dy ho mi se po n y m d ⟨k1,k5⟩ h e;have t4:=sE1 f iv ct un wkst en mo we yd md dy ho mi se po s sec n0 y0 m0 d0 w0 n y m d ⟨k1,k2,k3,k4,k5⟩;have t5:=jH1 f iv ct un wkst en mo we yd md dy ho mi se po n y m d k2 h hw;have tl:=vT t5;have ta:=mE t4 tl;have tb:=mE t3 ta;have hL:yC (aB.l2 n ((f,iv,ct,un,wkst,en,mo,we,yd,md,dy,ho,mi,se,po,()),s,(n0,y0,m0,d0,w0,()),sec,()) (n,y,m,d,wk n,())) (hasP yd (n-fst_ y+1) (cum y 13)∧hasP md d (mlen y m)∧wdP f mo dy n y m d∧stP f mo we yd md dy m0 d0 w0 n m d∧wkP wkst we n):=by rw[aB.l2_eq,fO n y m d h e];simp only[wW1];rw[jQ y (by omega)];simp only[wW1];refine mE t1 ?_;rw[jF y m (by omega)];simp only[wW1];exact mE t2 tb
 unfold fitP;rw[aB.f_eq,vV n y m d e];simp only[wW1,gX1,cond_false];by_cases c:mo=[]
 ·subst c;have hnil:(([]:List Int).length:Int)=0:=rfl;simp(disch:=omega)only[ss,hnil,aB.l1_eq];exact hL.iff ⟨fun q=>⟨.inl trivial,q⟩,fun q=>q.2⟩
 ·have hmp:(mo.length:Int)>0:=oG.1 c;by_cases cm:m∈mo
  ·simp(disch:=omega)only[ss,yD mo m (by omega),dp cm,aB.l1_eq];exact hL.iff ⟨fun q=>⟨.inr cm,q⟩,fun q=>q.2⟩
  ·simp(disch:=omega)only[ss,yD mo m (by omega),dn cm,aB.l1_eq];exact⟨false,rfl,by simp[c,cm]⟩
theorem nK1 (s sec n0 y0 m0 d0 w0 n:Int) (h:¬(-719162≤n∧n≤2932896)):aB.f ((f,iv,ct,un,wkst,en,mo,we,yd,md,dy,ho,mi,se,po,()),s,(n0,y0,m0,d0,w0,()),sec,()) n=some (false,()):=by rw[aB.f_eq,rP1 n h];simp(disch:=omega)only[ss,aB.l1_eq]
end
theorem eJ1 (l:List Int) (h:l.length≤1000000):mC.f l=some (l,()):=by have hlim:pC=17179869184:=rfl;rw[mC.f_eq];simp(disch:=omega)only[ss,gZ1,hlim,bY1,mC.l1_eq]
def Rise (l:List Int):Prop:=l.Pairwise (· < ·)
theorem lD {x:Int} {l:List Int}:Rise (x::l)↔(∀y,y∈l→x<y)∧Rise l:=tY1
theorem xE :Rise []:=List.Pairwise.nil
theorem eM {a b:List Int}:Rise (a++b)↔Rise a∧Rise b ∧ ∀x,x∈a → ∀y,y∈b→x<y:=hZ1
theorem gJ :∀{a b:List Int},Rise a→Rise b→(∀x,x∈a↔x∈b)→a=b
 | [],[],_,_,_=>rfl
 | [],y::b,_,_,h=>absurd ((h y).2 (bX1 ..)) (by simp)
 | x::a,[],_,_,h=>absurd ((h x).1 (bX1 ..)) (by simp)
 | x::a,y::b,ha,hb,h=>by
  have pa:=lD.1 ha;have pb:=lD.1 hb;have e:x=y:=by
   rcases cX1.1 ((h x).1 (bX1 ..))with e | e
   ·exact e
   ·rcases cX1.1 ((h y).2 (bX1 ..))with f | f
    ·exact f.symm
    ·have:=pb.1 x e;have:=pa.1 y f;omega
  subst e;have:a=b:=by
   refine gJ pa.2 pb.2 fun z=>⟨fun hz=>?_,fun hz=>?_⟩
   ·rcases cX1.1 ((h z).1 (yW1 _ hz))with e | e
    ·have:=pa.1 z hz;omega
    ·exact e
   ·rcases cX1.1 ((h z).2 (yW1 _ hz))with e | e
    ·have:=pb.1 z hz;omega
    ·exact e
  rw[this]
theorem rK :∀{l:List Int},Rise l → ∀{i j:Nat},i<j→j<l.length→l.getD i 0<l.getD j 0
 | [],_,_,_,_,h=>absurd h (by simp)
 | x::l,hr,0,0,h,_=>absurd h (by omega)
 | x::l,hr,0,j+1,_,h=>by
  have hj:j<l.length:=by simpa using h
  rw[List.getD_cons_zero,List.getD_cons_succ,fN 0 hj];exact(lD.1 hr).1 _ (List.getElem_mem hj)
 | x::l,hr,i+1,0,h,_=>absurd h (by omega)
 | x::l,hr,i+1,j+1,h,h2=>by rw[List.getD_cons_succ,List.getD_cons_succ];exact rK (lD.1 hr).2 (by omega) (by simpa using h2)
theorem yL1 {l:List Int} (hr:Rise l) {i j:Nat} (hi:i<l.length) (hj:j<l.length) (e:l.getD i 0=l.getD j 0):i=j:=by
 rcases Nat.lt_trichotomy i j with h | h | h
 ·have:=rK hr h hj;omega
 ·exact h
 ·have:=rK hr h hi;omega
theorem iB1 :∀{l:List Int},(∀j,0<j→j<l.length→l.getD (j-1) 0<l.getD j 0)→Rise l
 | [],_=>xE
 | [x],_=>lD.2 ⟨fun y h=>absurd h (by simp),xE⟩
 | x::y::l,h=>by
  have hr:Rise (y::l):=iB1 fun j h0 hj=>by
   have:=h (j+1) (by omega) (by simpa using hj)
   match j,h0 with
   | j+1,_=>simpa using this
  have hxy:x<y:=by simpa using h 1 (by omega) (by simp)
  refine lD.2 ⟨fun z hz=>?_,hr⟩;rcases cX1.1 hz with e | e
  ·omega
  ·have:=(lD.1 hr).1 z e;omega
theorem rW {l:List Int} {x:Int} (h:x∈l):∃i,i<l.length∧l.getD i 0=x:=by obtain⟨i,hi,e⟩:=List.mem_iff_getElem.1 h;exact⟨i,hi,by rw[fN 0 hi,e]⟩
theorem aH {l:List Int} {i:Nat} (h:i<l.length):l.getD i 0∈l:=by rw[fN 0 h];exact List.getElem_mem h
theorem sY {l:List Int} (h:Rise l) (n:Nat):Rise (l.take n):=List.Pairwise.sublist (List.take_sublist n l) h
def tod (h m c:List Int):List Int:=h.flatMap fun a=>m.flatMap fun b=>c.map fun s=>3600*a+60*b+s
def inR (l:List Int) (hi:Int):Prop:=∀x,x∈l→0≤x∧x≤hi
theorem yB1 {h m c:List Int} (hm:inR m 59) (hc:inR c 59) (x:Int):x∈tod h m c↔x/3600∈h∧x/60%60∈m∧x%60∈c:=by
 unfold tod;rw[kZ1];constructor
 ·rintro⟨a,ha,hx⟩;obtain⟨b,hb,hx⟩:=kZ1.1 hx;obtain⟨s,hs,e⟩:=pX1.1 hx;have:=hm b hb;have:=hc s hs;have e1:x/3600=a:=by omega
  have e2:x/60%60=b:=by omega
  have e3:x%60=s:=by omega
  rw[e1,e2,e3];exact⟨ha,hb,hs⟩
 ·rintro⟨h1,h2,h3⟩;exact⟨_,h1,kZ1.2 ⟨_,h2,pX1.2 ⟨_,h3,by omega⟩⟩⟩
theorem xW {l:List Int} (h:Rise l) (f:Int→Int) (hf:∀x y,x<y→f x<f y):Rise (l.map f):=by unfold Rise;rw[List.pairwise_map];exact List.Pairwise.imp (fun {a b} h=>hf a b h) h
theorem vL :∀{l:List Int} {f:Int→List Int},Rise l→(∀a,a∈l→Rise (f a))→(∀a b,a∈l→b∈l→a<b → ∀x,x∈f a → ∀y,y∈f b→x<y)→Rise (l.flatMap f)
 | [],_,_,_,_=>xE
 | a::l,f,h,h1,h2=>by rw[rZ1,eM];have p:=lD.1 h;refine⟨h1 a (bX1 ..),vL p.2 (fun b hb=>h1 b (yW1 _ hb)) (fun b b' hb hb'=>h2 b b' (yW1 _ hb) (yW1 _ hb')),fun x hx y hy=>?_⟩;obtain⟨b,hb,hy⟩:=kZ1.1 hy;exact h2 a b (bX1 ..) (yW1 _ hb) (p.1 b hb) x hx y hy
theorem hN1 {h m c:List Int} (rh:Rise h) (rm:Rise m) (rc:Rise c) (hm:inR m 59) (hc:inR c 59):Rise (tod h m c):=by
 refine vL rh (fun a ha=>vL rm (fun b hb=>xW rc _ fun x y h=>by omega) ?_) ?_
 ·intro b b' hb hb' hlt x hx y hy;obtain⟨s,hs,e⟩:=pX1.1 hx;obtain⟨s',hs',e'⟩:=pX1.1 hy;have:=hc s hs;have:=hc s' hs';omega
 ·intro b b' hb hb' hlt x hx y hy;obtain⟨d,hd,hx⟩:=kZ1.1 hx;obtain⟨d',hd',hy⟩:=kZ1.1 hy;obtain⟨s,hs,e⟩:=pX1.1 hx;obtain⟨s',hs',e'⟩:=pX1.1 hy;have:=hc s hs;have:=hc s' hs';have:=hm d hd;have:=hm d' hd';omega
theorem yS1 {h m c:List Int} (hh:inR h 23) (hm:inR m 59) (hc:inR c 59):inR (tod h m c) 86399:=by intro x hx;have⟨h1,h2,h3⟩:=(yB1 hm hc x).1 hx;have:=hh _ h1;omega
def dayL (h m c:List Int) (lo hi d:Int):List Int:=((tod h m c).filter fun x=>decide (lo≤x)&&decide (x<hi)).map (fun x=>d*86400+x)
theorem yL {h m c:List Int} (hh:inR h 23) (hm:inR m 59) (hc:inR c 59) (lo hi d x:Int):
  x∈dayL h m c lo hi d↔x/86400=d∧x%86400∈tod h m c∧lo≤x%86400∧x%86400<hi:=by
 unfold dayL;rw[pX1];constructor
 ·rintro⟨z,hz,e⟩;have⟨h1,h2⟩:=nZ1.1 hz;have:=yS1 hh hm hc z h1;have e1:x%86400=z:=by omega
  rw[e1];simp only[xW1,decide_eq_true_eq]at h2;exact⟨by omega,h1,h2.1,h2.2⟩
 ·rintro⟨h1,h2,h3,h4⟩;exact⟨x%86400,nZ1.2 ⟨h2,by simp[h3,h4]⟩,by omega⟩
theorem rP {h m c:List Int} (rh:Rise h) (rm:Rise m) (rc:Rise c) (hm:inR m 59) (hc:inR c 59) (lo hi d:Int):Rise (dayL h m c lo hi d):=by
 refine xW ?_ _ fun x y h=>by omega
 exact List.Pairwise.sublist List.filter_sublist (hN1 rh rm rc hm hc)
def setF (fits:Int→Bool) (h m c:List Int) (lo hi:Int):Nat→Int→List Int
 | 0,_=>[]
 | k+1,d=>(if fits d=true then dayL h m c lo hi d else [])++setF fits h m c lo hi k (d+1)
theorem kV {fits:Int→Bool} {h m c:List Int} (hh:inR h 23) (hm:inR m 59) (hc:inR c 59) (lo hi x:Int):∀(k:Nat) (d:Int),
  x∈setF fits h m c lo hi k d↔d≤x/86400∧x/86400<d+k∧fits (x/86400)=true∧x%86400∈tod h m c∧lo≤x%86400∧x%86400<hi
 | 0,d=>by
  constructor
  ·intro hx;exact absurd hx (by simp[setF])
  ·rintro⟨h1,h2,_⟩;omega
 | k+1,d=>by
  unfold setF;rw[kX1,kV hh hm hc lo hi x k (d+1)];constructor
  ·rintro(h1 | ⟨h1,h2,h3⟩)
   ·by_cases hf:fits d=true
    ·rw[if_pos hf,yL hh hm hc]at h1;obtain⟨e,h1⟩:=h1;rw[e];exact⟨by omega,by omega,hf,h1⟩
    ·rw[if_neg hf]at h1;exact absurd h1 (by simp)
   ·exact⟨by omega,by omega,h3⟩
  ·rintro⟨h1,h2,h3,h4⟩;by_cases e:x/86400=d
   ·rw[e]at h3;rw[if_pos h3,yL hh hm hc];exact Or.inl ⟨e,h4⟩
   ·exact Or.inr ⟨by omega,by omega,h3,h4⟩
theorem rX {fits:Int→Bool} {h m c:List Int} (rh:Rise h) (rm:Rise m) (rc:Rise c) (hh:inR h 23) (hm:inR m 59) (hc:inR c 59) (lo hi:Int):∀(k:Nat) (d:Int),
  Rise (setF fits h m c lo hi k d)
 | 0,_=>xE
 | k+1,d=>by
  unfold setF;rw[eM];refine⟨?_,rX rh rm rc hh hm hc lo hi k (d+1),?_⟩
  ·by_cases hf:fits d=true
   ·rw[if_pos hf];exact rP rh rm rc hm hc lo hi d
   ·rw[if_neg hf];exact xE
  ·intro x hx y hy;have hy:=(kV hh hm hc lo hi y k (d+1)).1 hy;by_cases hf:fits d=true
   ·rw[if_pos hf,yL hh hm hc]at hx;omega
   ·rw[if_neg hf]at hx;exact absurd hx (by simp)
def upTo (n:Nat):List Int:=(List.range n).map fun(j:Nat)=>(j:Int)
theorem zP (n:Nat):upTo (n+1)=upTo n++[(n:Int)]:=by unfold upTo;rw[List.range_succ,oX1];rfl
theorem sW (n:Nat):(upTo n).length=n:=by unfold upTo;simp
theorem lD1 {n:Nat} {x:Int}:x∈upTo n↔0≤x∧x<n:=by
 unfold upTo;rw[pX1];constructor
 ·rintro⟨j,hj,e⟩;have:=List.mem_range.1 hj;omega
 ·rintro⟨h0,h1⟩;exact⟨x.toNat,List.mem_range.2 (by omega),by omega⟩
theorem nX :∀n,Rise (upTo n)
 | 0=>xE
 | n+1=>by rw[zP,eM];refine⟨nX n,lD.2 ⟨fun y h=>absurd h (by simp),xE⟩,fun x hx y hy=>?_⟩;have:=lD1.1 hx;have:=fY1.1 hy;omega
theorem jR1 (all:Nat) (h:all≤1000):∀(k i:Nat),all-i=k→i≤all→zC.l1 (all:Int) (i:Int) (upTo i)=some (upTo all,()):=by
 have hlim:pC=17179869184:=rfl;intro k
 induction k with
 | zero=>
  intro i hk hil;have e:i=all:=by omega
  subst e;rw[zC.l1_eq];simp(disch:=omega)only[ss]
 | succ k ih=>
  intro i hk hil;have hlen:=sW i;have:=ih (i+1) (by omega) (by omega);rw[zP,mY1,nY1]at this;rw[zC.l1_eq];simp(disch:=omega)only[ss,hlen,hY1,hlim];exact this
theorem eM1 (all:Nat) (h:all≤1000):∀(k i:Nat),all-i=k→i≤all→wC.l1 (all:Int) (i:Int) (upTo i)=some (upTo all,()):=by
 have hlim:pC=17179869184:=rfl;intro k
 induction k with
 | zero=>
  intro i hk hil;have e:i=all:=by omega
  subst e;rw[wC.l1_eq];simp(disch:=omega)only[ss]
 | succ k ih=>
  intro i hk hil;have hlen:=sW i;have:=ih (i+1) (by omega) (by omega);rw[zP,mY1,nY1]at this;rw[wC.l1_eq];simp(disch:=omega)only[ss,hlen,hY1,hlim];exact this
def tms (l:List Int) (single:Bool) (n:Int) (all:Nat):List Int:=if l=[]then(if single=true then [n]else upTo all)else l
theorem rU (l:List Int) (single:Bool) (n:Int) (all:Nat) (hl:l.length≤1000000) (hb:all≤100):
  zC.f l single n (all:Int)=some (tms l single n all,())∧rG.f l single n (all:Int)=some (tms l single n all,()):=by
 have hlim:pC=17179869184:=rfl;unfold tms;rw[zC.f_eq,rG.f_eq];by_cases c:l=[]
 ·subst c;have hnil:(([]:List Int).length:Int)=0:=rfl;rw[if_pos rfl]
  cases single with
  | true=>
   rw[if_pos rfl];simp(disch:=omega)only[ss,hnil];exact⟨trivial,trivial⟩
  | false=>
   have hl:=jR1 all (by omega) all 0 (by omega) (eX1 _);have hv:=eM1 all (by omega) all 0 (by omega) (eX1 _);rw[sX1]at hl hv;rw[if_neg (by simp)];simp(disch:=omega)only[ss,hnil,wC.f_eq];have e:upTo 0=[]:=rfl;rw[e]at hl hv;rw[hl,hv];exact⟨rfl,rfl⟩
 ·have hp:(l.length:Int)>0:=oG.1 c;have hC:yB.f l=some (l,()):=by rw[yB.f_sem];show(bif decide (l.length≤pC)then some (l,())else none)=_;simp(disch:=omega)only[ss,hlim]
  rw[if_neg c];simp(disch:=omega)only[ss,hC,eJ1 l hl];exact⟨trivial,trivial⟩
def okT (x:List Int) (hi:Int):Prop:=Rise x∧inR x hi∧x.length≤60
theorem mQ1 {l:List Int} {lo hi:Int} {z:Bool} (h:wi l lo hi z):Rise l:=iB1 fun j h0 hj=>(h.1 j hj).2 h0
theorem mJ1 (l:List Int) (single:Bool) (n hi:Int) (all:Nat) (hw:wi l 0 hi true) (hn:0≤n∧n≤hi) (ha:(all:Int)=hi+1) (hb:all≤60):okT (tms l single n all) hi:=by
 unfold tms;by_cases c:l=[]
 ·rw[if_pos c]
  cases single with
  | true=>
   rw[if_pos rfl];refine⟨lD.2 ⟨fun y h=>absurd h (by simp),xE⟩,fun x hx=>?_,by simp⟩;have:=fY1.1 hx;omega
  | false=>
   rw[if_neg (by simp)];refine⟨nX all,fun x hx=>?_,by rw[sW];exact hb⟩;have:=lD1.1 hx;omega
 ·rw[if_neg c];refine⟨mQ1 hw,fun x hx=>?_,hw.2⟩;obtain⟨i,hi1,e⟩:=rW hx;have:=(hw.1 i hi1).1;unfold okI at this;omega
def hE1 (f w:Int) (we:List Int) (n k:Int):Prop:=
 (f=1∧we=[] ∧ ∃m d,tF n k m d)∨(f=1∧we≠[]∧0≤k ∧ ∃j,mT n w k j)∨(f=2 ∧ ∃y m d,tF n y m d∧k=12*y+m)∨(f=3∧k=(n+3-w)/7)∨(f=4∧k=n)
def iY (f w:Int) (we:List Int) (t k:Int):Prop:=(f≤4∧hE1 f w we (t/86400) k)∨(f=5∧k=t/3600)∨(f=6∧k=t/60)∨(f=7∧k=t)
def off (f w:Int):Int:=if f=3 then(if w<3 then 2932895 else 2932896)else 0
theorem gT (t k:Int) (h:inT t) (hk:0<k) (hk2:k≤3600):rI.f t k=some (t/k,())∧True:=by
 obtain⟨e1,e2⟩:=tdm t k hk;have b1:=Int.emod_nonneg t (show k≠0 by omega);have b2:=Int.emod_lt_of_pos t hk;have hq:=Int.emod_add_mul_ediv t k;unfold inT at h;have b3:t/k≤253402300799:=by have:=Int.ediv_le_ediv hk h.2;have:=Int.ediv_le_self k (show(0:Int)≤253402300799 by omega);omega
 have b4: -62135596801≤t/k:=by
  have h5:=Int.ediv_le_ediv hk h.1;have h6: -62135596801 ≤ -62135596800/k:=by refine Int.le_ediv_of_mul_le hk ?_;have:1*62135596801≤k*62135596801:=Int.mul_le_mul_of_nonneg_right (by omega) (by omega);omega
  omega
 constructor
 ·rw[rI.f_eq];by_cases c:t<0
  ·have hd:(0-t+k-1)/k = -(t/k):=by
    by_cases hz:t%k=0
    ·have:0-t+k-1=(k-1)+k*(-(t/k)):=by rw[Int.mul_neg];omega
     rw[this,Int.add_mul_ediv_left _ _ (by omega),Int.ediv_eq_zero_of_lt (by omega) (by omega)];omega
    ·have:0-t+k-1=(k-t%k-1)+k*(-(t/k)):=by rw[Int.mul_neg];omega
     rw[this,Int.add_mul_ediv_left _ _ (by omega),Int.ediv_eq_zero_of_lt (by omega) (by omega)];omega
   have hk0:¬k=0:=by omega
   have e3:0 - -(t/k)=t/k:=by omega
   simp(disch:=omega)only[ss,tdn (show(0:Int)≤0-t+k-1 by omega),hd,e3]
  ·simp(disch:=omega)only[ss,tdn (show(0:Int)≤t by omega)]
 ·trivial
section
variable (f iv ct un wkst : Int) (en : Bool) (mo we yd md : List Int) (dy : List Dy) (ho mi se po : List Int)
theorem rN1 (t:Int) (ht:inT t) (hf:1≤f∧f≤7) (hw:0≤wkst∧wkst≤6) (hl:we.length≤100000):
  ∃k,iY f wkst we t k∧(-300000000000≤k∧k≤300000000000)∧lF.f (f,iv,ct,un,wkst,en,mo,we,yd,md,dy,ho,mi,se,po,()) t=some (k+off f wkst,())∧True:=by
 have hb:=rJ ht;obtain⟨y,m,d,hd,e,e'⟩:=tI (t/86400) hb.1 hb.2;obtain⟨hD,hV⟩:=wF t (by unfold inT at ht;omega) (by unfold inT at ht;omega);obtain⟨q1,q2,q3,q4,_⟩:=fE hd;obtain⟨v1,v2,v3,v4⟩:=vB.1 hd.1;have hof:=vV (t/86400) y m d e;rw[lF.f_eq,hD];simp only[wW1];rw[hof];simp only[wW1];by_cases f1:f=1
 ·subst f1;have ho:off 1 wkst=0:=rfl;by_cases c:we=[]
  ·subst c;have hnil:(([]:List Int).length:Int)=0:=rfl;refine⟨y,.inl ⟨by omega,.inl ⟨rfl,rfl,m,d,hd⟩⟩,by omega,?_,?_⟩
   ·rw[ho,Int.add_zero];simp(disch:=omega)only[ss,cH.f_eq,hnil]
   ·trivial
  ·have hp:=oG.1 c;obtain⟨Y,K,h1,h2,h3,h4,h5,h6,h7⟩:=sR (t/86400) wkst hb.1 hb.2 hw.1 hw.2;refine⟨Y,.inl ⟨by omega,.inr (.inl ⟨rfl,c,h2,K,h1⟩)⟩,by omega,?_,?_⟩
   ·rw[ho,Int.add_zero];simp(disch:=omega)only[ss,cH.f_eq,h6]
   ·trivial
 ·by_cases f2:f=2
  ·subst f2;have ho:off 2 wkst=0:=rfl;refine⟨12*y+m,.inl ⟨by omega,.inr (.inr (.inl ⟨rfl,y,m,d,hd,rfl⟩))⟩,by omega,?_,?_⟩
   ·rw[ho,Int.add_zero];simp(disch:=omega)only[ss]
   ·trivial
  ·by_cases f3:f=3
   ·subst f3;have hk:=cJ1 (t/86400);have hm:Int.tmod (wk (t/86400)-wkst+7) 7=(t/86400+3-wkst)%7:=by rw[tmn (by omega)];unfold wk;omega
    have hb7:Int.tdiv (t/86400-(t/86400+3-wkst)%7+20530272) 7=(t/86400+3-wkst)/7+off 3 wkst:=by rw[tdn (by omega)];unfold off;rw[if_pos rfl];split <;> omega
    have ho:off 3 wkst=2932895∨off 3 wkst=2932896:=by unfold off;rw[if_pos rfl];split <;> simp
    refine⟨(t/86400+3-wkst)/7,.inl ⟨by omega,.inr (.inr (.inr (.inl ⟨rfl,rfl⟩)))⟩,by omega,?_,?_⟩
    ·rw[oK.f_eq,oF];simp(disch:=omega)only[ss,hm,hb7]
    ·trivial
   ·have ho:off f wkst=0:=by unfold off;rw[if_neg f3]
    rw[ho];by_cases f4:f=4
    ·subst f4;refine⟨t/86400,.inl ⟨by omega,.inr (.inr (.inr (.inr ⟨rfl,rfl⟩)))⟩,by omega,?_,?_⟩
     ·rw[Int.add_zero];simp(disch:=omega)only[ss]
     ·trivial
    ·by_cases f5:f=5
     ·subst f5;obtain⟨g1,g2⟩:=gT t 3600 ht (by omega) (by omega);refine⟨t/3600,.inr (.inl ⟨rfl,rfl⟩),by unfold inT at ht;omega,?_,?_⟩
      ·rw[Int.add_zero];simp(disch:=omega)only[ss,g1]
      ·trivial
     ·by_cases f6:f=6
      ·subst f6;obtain⟨g1,g2⟩:=gT t 60 ht (by omega) (by omega);refine⟨t/60,.inr (.inr (.inl ⟨rfl,rfl⟩)),by unfold inT at ht;omega,?_,?_⟩
       ·rw[Int.add_zero];simp(disch:=omega)only[ss,g1]
       ·trivial
      ·have f7:f=7:=by omega
       subst f7;refine⟨t,.inr (.inr (.inr ⟨rfl,rfl⟩)),by unfold inT at ht;omega,?_,?_⟩
       ·rw[Int.add_zero];simp(disch:=omega)only[ss]
       ·trivial
end
theorem nM {n y y':Int} (h0:1≤y) (h1:1≤y') (a1:fst_ y≤n) (a2:n<fst_ (y+1)) (b1:fst_ y'≤n) (b2:n<fst_ (y'+1)):y=y':=by
 rcases Int.lt_trichotomy y y' with c | c | c
 ·have:=cC (a:=y+1) (b:=y') (by omega) (by omega);omega
 ·exact c
 ·have:=cC (a:=y'+1) (b:=y) (by omega) (by omega);omega
theorem kU {f w:Int} {we:List Int} {n n' k k':Int} (h:hE1 f w we n k) (g:hE1 f w we n' k') (hn:n≤n'):k≤k':=by
 rcases h with⟨f1,e1,m,d,h⟩ | ⟨f1,e1,h0,j,h⟩ | ⟨f1,y,m,d,h,rfl⟩ | ⟨f1,rfl⟩ | ⟨f1,rfl⟩ <;>
  rcases g with⟨f2,e2,m',d',g⟩ | ⟨f2,e2,g0,j',g⟩ | ⟨f2,y',m',d',g,rfl⟩ | ⟨f2,rfl⟩ | ⟨f2,rfl⟩ <;> first | omega | (exact absurd e1 e2) | (exact absurd e2 e1) | skip
 ·obtain⟨a1,a2,_⟩:=fE h;obtain⟨b1,b2,_⟩:=fE g;obtain⟨v1,_⟩:=vB.1 h.1;obtain⟨v2,_⟩:=vB.1 g.1;refine Int.not_lt.1 fun c=>?_
  have:=cC (a:=k'+1) (b:=k) (by omega) (by omega);omega
 ·refine Int.not_lt.1 fun c=>?_
  have:=sA1 (a:=k'+1) (b:=k) (w:=w) (by omega) (by omega);obtain⟨a1,a2,_⟩:=h;obtain⟨b1,b2,_⟩:=g;omega
 ·obtain⟨a1,a2,a3,a4,_⟩:=fE h;obtain⟨b1,b2,b3,b4,_⟩:=fE g;obtain⟨v1,v1',v1'',v1d⟩:=vB.1 h.1;obtain⟨v2,v2',v2'',v2d⟩:=vB.1 g.1;have h2:=h.2;have g2:=g.2;rcases Int.lt_trichotomy y y' with c | c | c
  ·omega
  ·subst c;refine Int.not_lt.1 fun c=>?_
   have cs:=eD y m' b3 b4;have:=tG y (a:=m'+1) (b:=m) (by omega) (by omega) (by omega);omega
  ·have:=cC (a:=y'+1) (b:=y) (by omega) (by omega);omega
theorem jW {f w:Int} {we:List Int} {t t' k k':Int} (h:iY f w we t k) (g:iY f w we t' k') (ht:t≤t'):k≤k':=by
 rcases h with⟨a,h⟩ | ⟨a,rfl⟩ | ⟨a,rfl⟩ | ⟨a,rfl⟩ <;> rcases g with⟨b,g⟩ | ⟨b,rfl⟩ | ⟨b,rfl⟩ | ⟨b,rfl⟩ <;> first | omega | skip
 exact kU h g (by omega)
def isIv (f w:Int) (we:List Int) (n A B:Int):Prop:=
 (f=1∧we=[] ∧ ∃y,1≤y∧y≤9999∧fst_ y≤n∧n<fst_ (y+1)∧A=fst_ y∧B=fst_ (y+1)-1) ∨
 (f=1∧we≠[] ∧ ∃Y,0≤Y∧Y≤10000∧w1 Y w≤n∧n<w1 (Y+1) w∧A=(if w1 Y w < -719162 then -719162 else w1 Y w)∧B=(if w1 (Y+1) w-1>2932896 then 2932896 else w1 (Y+1) w-1)) ∨
 (f=2 ∧ ∃y m,1≤y∧y≤9999∧1≤m∧m≤12∧fst_ y+cum y m≤n∧n<fst_ y+cum y (m+1)∧A=fst_ y+cum y m∧B=fst_ y+cum y (m+1)-1) ∨
 (f=3∧A=(if n-(n+3-w)%7 < -719162 then -719162 else n-(n+3-w)%7)∧B=(if n-(n+3-w)%7+6>2932896 then 2932896 else n-(n+3-w)%7+6)) ∨
 (f=4∧A=n∧B=n)
theorem pT1 {f w:Int} {we:List Int} {n A B:Int} (h:isIv f w we n A B) (hn: -719162≤n∧n≤2932896):A≤n∧n≤B ∧ -719162≤A∧B≤2932896:=by
 rcases h with⟨_,_,y,h1,h2,h3,h4,rfl,rfl⟩ | ⟨_,_,Y,h1,h2,h3,h4,rfl,rfl⟩ | ⟨_,y,m,h1,h2,h3,h4,h5,h6,rfl,rfl⟩ | ⟨_,rfl,rfl⟩ | ⟨_,rfl,rfl⟩
 ·have a:=cC (a:=1) (b:=y) (by omega) h1;have b:=cC (a:=y+1) (b:=10000) (by omega) (by omega);rw[aF1]at a;rw[fH]at b;omega
 ·split <;> split <;> omega
 ·have a:=cC (a:=1) (b:=y) (by omega) h1;have b:=cC (a:=y+1) (b:=10000) (by omega) (by omega);have c:=iF y h1;have d:=tG y (a:=m+1) (b:=13) (by omega) (by omega) (by omega);have e:=oJ y m;rw[aF1]at a;rw[fH]at b;omega
 ·split <;> split <;> omega
 ·omega
theorem nH1 {f w:Int} {we:List Int} {n k A B x k':Int} (h:isIv f w we n A B) (hn:hE1 f w we n k) (hx:hE1 f w we x k') (hr: -719162≤x∧x≤2932896):
  (A≤x∧x≤B→k'=k)∧(x=A-1→k'=k-1)∧(x=B+1→k'=k+1):=by
 rcases h with⟨f1,e1,y,h1,h2,h3,h4,rfl,rfl⟩ | ⟨f1,e1,Y,h1,h2,h3,h4,hA,hB⟩ | ⟨f1,y,m,h1,h2,h3,h4,h5,h6,rfl,rfl⟩ | ⟨f1,hA,hB⟩ | ⟨f1,rfl,rfl⟩ <;>
  rcases hn with⟨f2,e2,m1,d1,g⟩ | ⟨f2,e2,g0,j1,g⟩ | ⟨f2,y1,m1,d1,g,rfl⟩ | ⟨f2,rfl⟩ | ⟨f2,rfl⟩ <;> first | omega | (exact absurd e1 e2) | (exact absurd e2 e1) | skip <;>
  rcases hx with⟨f3,e3,m2,d2,q⟩ | ⟨f3,e3,q0,j2,q⟩ | ⟨f3,y2,m2,d2,q,rfl⟩ | ⟨f3,rfl⟩ | ⟨f3,rfl⟩ <;> first | omega | (exact absurd e1 e3) | (exact absurd e3 e1) | skip
 ·-- years
  obtain⟨a1,a2,_⟩:=fE g;obtain⟨b1,b2,_⟩:=fE q;obtain⟨v1,v1',_⟩:=vB.1 g.1;obtain⟨v2,v2',_⟩:=vB.1 q.1;have ek:k=y:=nM v1 h1 a1 a2 h3 h4;subst ek;refine⟨fun r=>nM v2 v1 b1 b2 r.1 (by omega),fun r=>?_,fun r=>?_⟩
  ·have s:=cI (k-1) (by omega);rw[show k-1+1=k by omega]at s;rcases Int.lt_or_le 1 k with c | c
   ·exact nM v2 (by omega) b1 b2 (by omega) (by rw[show k-1+1=k by omega];omega)
   ·have:k=1:=by omega
    subst this;have:=aF1;omega
  ·have s:=cI (k+1) (by omega);exact nM v2 (by omega) b1 b2 (by omega) (by omega)
 ·-- years by weeks
  obtain⟨a1,a2,_⟩:=g;obtain⟨b1,b2,_⟩:=q;have ek:k=Y:=(lM (n:=n) (w:=w) (k:=(n-w1 k w)/7+1) (k':=(n-w1 Y w)/7+1) g0 h1 ⟨a1,a2,rfl⟩ ⟨h3,h4,rfl⟩).1;subst ek;have uq:∀z,0≤z→w1 z w≤x→x<w1 (z+1) w→k'=z:=fun z z0 z1 z2=>(lM (n:=x) (w:=w) (k:=(x-w1 k' w)/7+1) (k':=(x-w1 z w)/7+1) q0 z0 ⟨b1,b2,rfl⟩ ⟨z1,z2,rfl⟩).1
  have n0:=mH k w;have n1:=mH (k+1) w;refine⟨fun r=>uq k g0 ?_ ?_,fun r=>?_,fun r=>?_⟩
  ·rw[hA]at r;split at r <;> omega
  ·rw[hB]at r;obtain⟨_,r⟩:=r;split at r <;> omega
  ·rw[hA]at r;split at r
   ·omega
   ·rcases Int.lt_or_le 0 k with c | c
    ·have s:=qJ (k-1) w (by omega);rw[show k-1+1=k by omega]at s;exact uq (k-1) (by omega) (by omega) (by rw[show k-1+1=k by omega];omega)
    ·have:k=0:=by omega
     subst this;have f0:fst_ 0 = -719528:=by decide
     omega
  ·rw[hB]at r;split at r
   ·omega
   ·have s:=qJ (k+1) w (by omega);exact uq (k+1) (by omega) (by omega) (by omega)
 ·-- months
  obtain⟨a1,a2,a3,a4,_⟩:=fE g;obtain⟨b1,b2,b3,b4,_⟩:=fE q;obtain⟨v1,v1',v1a,v1b⟩:=vB.1 g.1;obtain⟨v2,v2',v2a,v2b⟩:=vB.1 q.1;have c1:=eD y1 m1 a3 a4;have c2:=eD y2 m2 b3 b4;have g2:=g.2;have q2:=q.2
  have uq:∀(z u n' m' d' y':Int),tF n' y' m' d'→1≤z→z≤9999→1≤u→u≤12→fst_ z+cum z u≤n'→n'<fst_ z+cum z (u+1)→y'=z∧m'=u:=fun z u n' m' d' y' hd z1 z2 u1 u2 r1 r2=>by
   have hb:=eD z u u1 u2;have hu:tF n' z u (n'-fst_ z-cum z u+1):=⟨vB.2 ⟨z1,z2,by omega,by omega⟩,by omega⟩
   obtain⟨e1,e2,_⟩:=jR hd hu;exact⟨e1,e2⟩
  obtain⟨ey,em⟩:=uq y m n m1 d1 y1 g h1 h2 h3 h4 h5 h6;subst ey em;refine⟨fun r=>?_,fun r=>?_,fun r=>?_⟩
  ·obtain⟨e3,e4⟩:=uq y1 m1 x m2 d2 y2 q h1 h2 h3 h4 r.1 (by omega);rw[e3,e4]
  ·by_cases cm:m1=1
   ·subst cm;have c0:=vZ y1;have s:=cI (y1-1) (by omega);rw[show y1-1+1=y1 by omega]at s;rcases Int.lt_or_le 1 y1 with cy | cy
    ·have s':=iF (y1-1) (by omega);rw[show y1-1+1=y1 by omega]at s';have h13:=eD (y1-1) 12 (by omega) (by omega);have hl:=wH (y1-1) 12;have hl2:mlen (y1-1) 12=31:=by unfold mlen;simp
     obtain⟨e3,e4⟩:=uq (y1-1) 12 x m2 d2 y2 q (by omega) (by omega) (by omega) (by omega) (by rw[show(12:Int)+1=13 from rfl]at h13;omega) (by rw[show(12:Int)+1=13 from rfl];omega);rw[e3,e4];omega
    ·have:y1=1:=by omega
     subst this;have:=aF1;omega
   ·have hs:=eD y1 (m1-1) (by omega) (by omega);rw[show m1-1+1=m1 by omega]at hs;have hl:28≤mlen y1 (m1-1):=by
     unfold mlen;split
     ·split <;> omega
     ·split
      ·omega
      ·rw[if_pos ⟨by omega,by omega⟩];omega
    obtain⟨e3,e4⟩:=uq y1 (m1-1) x m2 d2 y2 q (by omega) (by omega) (by omega) (by omega) (by omega) (by rw[show m1-1+1=m1 by omega];omega);rw[e3,e4];omega
  ·by_cases cm:m1=12
   ·subst cm;have s':=iF y1 (by omega);have c0:=vZ (y1+1);have c3:=eD (y1+1) 1 (by omega) (by omega);have hl2:mlen (y1+1) 1=31:=by unfold mlen;simp
    rw[show(12:Int)+1=13 from rfl]at r;have b9:=cC (a:=y1+1) (b:=10000) (by omega) (by omega);rw[fH]at b9;rcases Int.lt_or_le y1 9999 with cy | cy
    ·obtain⟨e3,e4⟩:=uq (y1+1) 1 x m2 d2 y2 q (by omega) (by omega) (by omega) (by omega) (by omega) (by omega);rw[e3,e4];omega
    ·have:y1=9999:=by omega
     subst this;have:fst_ (9999+1)=2932897:=fH;omega
   ·have hs:=eD y1 (m1+1) (by omega) (by omega);have hl:28≤mlen y1 (m1+1):=by
     unfold mlen;split
     ·split <;> omega
     ·split
      ·omega
      ·rw[if_pos ⟨by omega,by omega⟩];omega
    obtain⟨e3,e4⟩:=uq y1 (m1+1) x m2 d2 y2 q (by omega) (by omega) (by omega) (by omega) (by omega) (by omega);rw[e3,e4];omega
theorem jan1 (y:Int) (h1:1≤y) (h2:y≤9999):nF.f y 1 1=some (fst_ y,0,()):=by
 have hv:vJ y 1 1=true:=vB.2 ⟨h1,h2,by omega,by unfold mlen;simp⟩;have:=vZ y;have e:fst_ y+1-1+cum y 1=fst_ y:=by omega
 rw[tX,if_pos hv,e]
theorem lE1 (y w:Int) (h1:0≤y) (h2:y≤10001) (hw:0≤w∧w≤6):rC.l1 w (fst_ y)=some (w1 y w,()):=by
 have hb:=yH y h1 h2;have hk:=cJ1 (fst_ y);rw[rC.l1_eq,oF];simp(disch:=omega)only[ss,tmn (show(0:Int)≤wk (fst_ y)-w+7 by omega)];unfold w1;by_cases c:(wk (fst_ y)-w+7)%7≤3
 ·simp(disch:=omega)only[ss]
  congr 2
  unfold wk at *;omega
 ·simp(disch:=omega)only[ss]
  congr 2
  unfold wk at *;omega
theorem nO (y w:Int) (h1:0≤y) (h2:y≤10001) (hw:0≤w∧w≤6):rC.f y w=some (if y<1 then -719169 else if y>10000 then 2932903 else w1 y w,()):=by
 rw[rC.f_eq];by_cases c1:y<1
 ·rw[if_pos c1];simp(disch:=omega)only[ss]
 ·rw[if_neg c1];by_cases c2:y>10000
  ·rw[if_pos c2];simp(disch:=omega)only[ss]
  ·rw[if_neg c2];have hl:=lE1 y w h1 h2 hw;by_cases c3:y≤9999
   ·simp(disch:=omega)only[ss,jan1 y (by omega) c3,hl]
   ·have:y=10000:=by omega
    subst this;rw[fH]at hl;simp(disch:=omega)only[ss,hl]
theorem vD1 (a b:Int):lK.f a b=some (if a < -719162 then -719162 else a,if b>2932896 then 2932896 else b,()):=by rw[lK.f_eq];simp only[mm,cond_true,cond_false,gt_iff_lt]
section
variable (f iv ct un wkst : Int) (en : Bool) (mo we yd md : List Int) (dy : List Dy) (ho mi se po : List Int)
theorem jI1 (s sec n0 y0 m0 d0 w0 t:Int) (ht:inT t) (hf:1≤f∧f≤7) (hw:0≤wkst∧wkst≤6) (hl:we.length≤100000):
  ∃A B,(f≤4→isIv f wkst we (t/86400) A B)∧(4<f→A=t/86400∧B=t/86400)∧lC.f ((f,iv,ct,un,wkst,en,mo,we,yd,md,dy,ho,mi,se,po,()),s,(n0,y0,m0,d0,w0,()),sec,()) t=some (A,B,()):=by
 have hb:=rJ ht;obtain⟨y,m,d,hd,e,e'⟩:=tI (t/86400) hb.1 hb.2;obtain⟨hD,_⟩:=wF t (by unfold inT at ht;omega) (by unfold inT at ht;omega);obtain⟨q1,q2,q3,q4,_⟩:=fE hd;obtain⟨v1,v2,v3,v4⟩:=vB.1 hd.1;have hof:=vV (t/86400) y m d e;have heq:=hd.2;rw[lC.f_eq,hD];simp only[wW1];rw[hof];simp only[wW1];by_cases f1:f=1
 ·subst f1;by_cases c:we=[]
  ·subst c;have hnil:(([]:List Int).length:Int)=0:=rfl;have hs:=iF y v1;have h13:=oF1 y;have hfb:=yH y (by omega) (by omega);have e3:fst_ y+cum y 13-1=fst_ (y+1)-1:=by omega
   refine⟨fst_ y,fst_ (y+1)-1,fun _=>.inl ⟨rfl,rfl,y,v1,v2,q1,q2,rfl,rfl⟩,fun q=>by omega,?_⟩;simp(disch:=omega)only[ss,rF.f_eq,hnil,jan1 y v1 v2,jQ y (by omega),e3]
  ·have hp:=oG.1 c;obtain⟨Y,K,h1,h2,h3,h4,h5,h6,_⟩:=sR (t/86400) wkst hb.1 hb.2 hw.1 hw.2;obtain⟨a1,a2,_⟩:=h1;have o1:=nO Y wkst h2 (by omega) hw;have o2:=nO (Y+1) wkst (by omega) (by omega) hw;have n0':=mH Y wkst;have n1':=mH (Y+1) wkst;have b0:=yH Y h2 (by omega);have b1:=yH (Y+1) (by omega) (by omega);have f0:fst_ 0 = -719528:=by decide
   have f10:fst_ 10001=2933263:=by decide
   refine⟨_,_,fun _=>.inr (.inl ⟨rfl,c,Y,h2,h3,a1,a2,rfl,rfl⟩),fun q=>by omega,?_⟩
   have fin:∀v1 v2:Int,v1=(if Y<1 then -719169 else if Y>10000 then 2932903 else w1 Y wkst)→v2=(if Y+1<1 then -719169 else if Y+1>10000 then 2932903 else w1 (Y+1) wkst) →
     (if v1 < -719162 then -719162 else v1)=(if w1 Y wkst < -719162 then -719162 else w1 Y wkst)∧(if v2-1>2932896 then 2932896 else v2-1)=(if w1 (Y+1) wkst-1>2932896 then 2932896 else w1 (Y+1) wkst-1)∧(-10000000≤v2∧v2≤10000000):=fun v1 v2 e1 e2=>by
    have hv1:(v1 = -719169∧Y=0)∨v1=w1 Y wkst:=by
     by_cases cY:Y<1
     ·rw[if_pos cY]at e1;exact .inl ⟨e1,by omega⟩
     ·rw[if_neg cY,if_neg (by omega)]at e1;exact .inr e1
    have hv2:(v2=2932903∧Y=10000)∨v2=w1 (Y+1) wkst:=by
     rw[if_neg (by omega)]at e2;by_cases cY:Y+1>10000
     ·rw[if_pos cY]at e2;exact .inl ⟨e2,by omega⟩
     ·rw[if_neg cY]at e2;exact .inr e2
    refine⟨?_,?_,?_⟩
    ·rcases hv1 with⟨e3,e4⟩ | e3
     ·subst e4;rw[e3];split <;> split <;> omega
     ·rw[e3]
    ·rcases hv2 with⟨e3,e4⟩ | e3
     ·subst e4;have n2:fst_ (10000+1)=2933263:=f10;rw[e3];split <;> split <;> omega
     ·rw[e3]
    ·rcases hv2 with⟨e3,_⟩ | e3 <;> rw[e3] <;> omega
   obtain⟨g1,g2,g3⟩:=fin _ _ rfl rfl;rw[←g1,←g2];simp(disch:=omega)only[ss,rF.f_eq,cH.f_eq,h6,o1,o2,vD1]
 ·by_cases f2:f=2
  ·subst f2;have hc:=eD y m q3 q4;have hml:=wH y m;have e1:t/86400-d+1=fst_ y+cum y m:=by omega
   have e2:t/86400-d+mlen y m=fst_ y+cum y (m+1)-1:=by omega
   refine⟨fst_ y+cum y m,fst_ y+cum y (m+1)-1,fun _=>.inr (.inr (.inl ⟨rfl,y,m,v1,v2,q3,q4,by omega,by omega,rfl,rfl⟩)),fun q=>by omega,?_⟩;simp(disch:=omega)only[ss,jF y m (by omega),e1,e2]
  ·by_cases f3:f=3
   ·subst f3;have hk:=cJ1 (t/86400);have hm:Int.tmod (wk (t/86400)-wkst+7) 7=(t/86400+3-wkst)%7:=by rw[tmn (by omega)];unfold wk;omega
    have e6:t/86400-(t/86400+3-wkst)%7+7-1=t/86400-(t/86400+3-wkst)%7+6:=by omega
    refine⟨_,_,fun _=>.inr (.inr (.inr (.inl ⟨rfl,rfl,rfl⟩))),fun q=>by omega,?_⟩;simp(disch:=omega)only[ss,hm,e6,vD1]
   ·refine⟨t/86400,t/86400,fun q=>.inr (.inr (.inr (.inr ⟨by omega,rfl,rfl⟩))),fun _=>⟨rfl,rfl⟩,?_⟩;simp(disch:=omega)only[ss]
end
abbrev PlT :=Rl×(Rl×Int×(Int×Int×Int×Int×Int×Unit)×Int×Unit)×Int×(List Int)×(List Int)×(List Int)×Unit
noncomputable def per (f w:Int) (we:List Int) (t:Int):Int:=Classical.epsilon fun k=>iY f w we t k
theorem uO1 {f w:Int} {we:List Int} {t k:Int} (h:iY f w we t k):iY f w we t (per f w we t):=Classical.epsilon_spec ⟨k,h⟩
theorem aU1 {f w:Int} {we:List Int} {t k:Int} (h:iY f w we t k):k=per f w we t:=
 Int.le_antisymm (jW h (uO1 h) (aA2 _)) (jW (uO1 h) h (aA2 _))
noncomputable def ind (p:Prop):Bool:=@decide p (Classical.propDecidable p)
theorem lN {p:Prop}:ind p=true↔p:=@decide_eq_true_iff p (Classical.propDecidable p)
theorem oP1 {p:Prop} (h:p):ind p=true:=lN.2 h
theorem mM1 {p:Prop} (h:¬p):ind p=false:=by
 cases e:ind p with
 | false=>rfl
 | true=>exact absurd (lN.1 e) h
noncomputable def dS (f wkst:Int) (mo we yd md:List Int) (dy:List Dy) (s n:Int):Bool:=
 ind (∃y0 m0 d0 y m d,tF (s/86400) y0 m0 d0∧tF n y m d∧fitP f wkst mo we yd md dy m0 d0 (wk (s/86400)) n y m d)
theorem dD1 {f wkst:Int} {mo we yd md:List Int} {dy:List Dy} {s n:Int} (h:dS f wkst mo we yd md dy s n=true): -719162≤n∧n≤2932896:=by unfold dS at h;obtain⟨y0,m0,d0,y,m,d,_,h,_⟩:=lN.1 h;have:=fE h;omega
structure PlanOK (P:PlT) (r:Rl) (s:Int) (F:Int→Bool) (pr:Int→Int) (h m c:List Int):Prop where
 dmk:mD.f r s=some (P.2.1,true,())
 er:P.1=r
 es:P.2.2.1=s
 eh:P.2.2.2.1=h
 em:P.2.2.2.2.1=m
 ec:P.2.2.2.2.2.1=c
 inS:inT s
 fits:∀n,aB.f P.2.1 n=some (F n,())
 fin:∀n,F n=true → -719162≤n∧n≤2932896
 period:∀t,inT t→nE.f P.2.1 t=some (pr t-pr s,())
 days:∀t,inT t → ∃A B,lC.f P.2.1 t=some (A,B,())∧(A≤t/86400∧t/86400≤B ∧ -719162≤A∧B≤2932896)∧(r.1≤4 → ∀x,inT x→(pr x=pr t↔A≤x/86400∧x/86400≤B))∧(4<r.1→A=t/86400∧B=t/86400)
 p5:r.1=5 → ∀t,inT t→pr t=t/3600
 p6:r.1=6 → ∀t,inT t→pr t=t/60
 p7:r.1=7 → ∀t,inT t→pr t=t
 mono:∀t t',inT t→inT t'→t≤t'→pr t≤pr t'
 bd:∀t,inT t → -300000000000≤pr t∧pr t≤300000000000
 oh:okT h 23
 om:okT m 59
 oc:okT c 59
 fr:1≤r.1∧r.1≤7
 iv:1≤r.2.1∧r.2.1≤1000
 lp:r.2.2.2.2.2.2.2.2.2.2.2.2.2.2.1.length≤1000
section
variable (f iv ct un wkst : Int) (en : Bool) (mo we yd md : List Int) (dy : List Dy) (ho mi se po : List Int)
theorem dN1 (s sec n y0 m0 d0:Int) (hs:wU mo we yd md dy ho mi se po) (hw:0≤wkst∧wkst≤6) (h0:tF (s/86400) y0 m0 d0):
  aB.f ((f,iv,ct,un,wkst,en,mo,we,yd,md,dy,ho,mi,se,po,()),s,(s/86400,y0,m0,d0,wk (s/86400),()),sec,()) n=some (dS f wkst mo we yd md dy s n,()):=by
 by_cases c: -719162≤n∧n≤2932896
 ·obtain⟨y,m,d,h,e,_⟩:=tI n c.1 c.2;obtain⟨b,h1,h2⟩:=iH1 f iv ct un wkst en mo we yd md dy ho mi se po s sec (s/86400) y0 m0 d0 (wk (s/86400)) n y m d hs hw h e;rw[h1];have:dS f wkst mo we yd md dy s n=b:=by
   unfold dS
   cases b with
   | true=>exact oP1 ⟨y0,m0,d0,y,m,d,h0,h,h2.1 rfl⟩
   | false=>
    refine mM1 fun⟨y0',m0',d0',y',m',d',g0,g,q⟩=>?_
    obtain⟨rfl,rfl,rfl⟩:=jR g0 h0;obtain⟨rfl,rfl,rfl⟩:=jR g h;exact absurd (h2.2 q) (by simp)
  rw[this]
 ·rw[nK1 f iv ct un wkst en mo we yd md dy ho mi se po s sec (s/86400) y0 m0 d0 (wk (s/86400)) n c];have:dS f wkst mo we yd md dy s n=false:=by
   cases hq:dS f wkst mo we yd md dy s n with
   | false=>rfl
   | true=>exact absurd (dD1 hq) c
  rw[this]
def oZ (s:Int):List Int:=tms ho (decide (f≤4)) (s%86400/3600) 24
def wK1 (s:Int):List Int:=tms mi (decide (f≤5)) (s%86400/60%60) 60
def uK1 (s:Int):List Int:=tms se (decide (f≤6)) (s%86400%60) 60
theorem eQ1 (s:Int) (hs:wU mo we yd md dy ho mi se po) (hM:nA.f (f,iv,ct,un,wkst,en,mo,we,yd,md,dy,ho,mi,se,po,())=some (true,())) (ht:inT s):
  ∃P:PlT,vC.f (f,iv,ct,un,wkst,en,mo,we,yd,md,dy,ho,mi,se,po,()) s=some (P,true,()) ∧
   PlanOK P (f,iv,ct,un,wkst,en,mo,we,yd,md,dy,ho,mi,se,po,()) s (dS f wkst mo we yd md dy s) (per f wkst we) (oZ f ho s) (wK1 f mi s) (uK1 f se s):=by
 have hp:=kT1 (r:=(f,iv,ct,un,wkst,en,mo,we,yd,md,dy,ho,mi,se,po,())) hs hM;dsimp only at hp;have hf:1≤f∧f≤7:=⟨hp.1.1.1,hp.1.1.2.1⟩
 have hw:0≤wkst∧wkst≤6:=⟨hp.1.1.2.2.2.2.2.2.1,hp.1.1.2.2.2.2.2.2.2⟩
 have hl:we.length≤100000:=hs.2.1;obtain⟨y0,m0,d0,h0,e0,_⟩:=tI (s/86400) (rJ ht).1 (rJ ht).2;have hMk:=zH _ s hM ht y0 m0 d0 e0;obtain⟨sec,hsec⟩:∃x,x=s%86400:=⟨_,rfl⟩
 have hs1:0≤sec∧sec≤86399:=by omega
 have g1:zC.f ho (decide (f≤4)) (sec/3600) 24=some (oZ f ho s,()):=by rw[hsec];exact(rU ho (decide (f≤4)) (s%86400/3600) 24 (by have:=hp.2.1.2.2.2.2.1.2;omega) (by omega)).1
 have g2:zC.f mi (decide (f≤5)) (sec/60%60) 60=some (wK1 f mi s,()):=by rw[hsec];exact(rU mi (decide (f≤5)) (s%86400/60%60) 60 (by have:=hp.2.1.2.2.2.2.2.1.2;omega) (by omega)).1
 have g3:zC.f se (decide (f≤6)) (sec%60) 60=some (uK1 f se s,()):=by rw[hsec];exact(rU se (decide (f≤6)) (s%86400%60) 60 (by have:=hp.2.1.2.2.2.2.2.2.1.2;omega) (by omega)).1
 have t1:w6 (Int.tdiv sec 3600)=sec/3600:=by rw[tdn hs1.1,wr (by omega) (by omega)]
 have t2:Int.tmod (w6 (Int.tdiv sec 60)) 60=sec/60%60:=by rw[tdn hs1.1,wr (by omega) (by omega),tmn (by omega)]
 have t3:Int.tmod sec 60=sec%60:=tmn hs1.1 _;rw[←hsec]at hMk;refine⟨((f,iv,ct,un,wkst,en,mo,we,yd,md,dy,ho,mi,se,po,()),((f,iv,ct,un,wkst,en,mo,we,yd,md,dy,ho,mi,se,po,()),s,(s/86400,y0,m0,d0,wk (s/86400),()),sec,()),s,oZ f ho s,wK1 f mi s,uK1 f se s,()),?_,?_⟩
 ·rw[vC.f_eq,hMk];simp(disch:=omega)only[ss,uF.f_eq,t1,t2,t3,g1,g2,g3]
 have hper:∀t,inT t→iY f wkst we t (per f wkst we t)∧(-300000000000≤per f wkst we t∧per f wkst we t≤300000000000)∧lF.f (f,iv,ct,un,wkst,en,mo,we,yd,md,dy,ho,mi,se,po,()) t=some (per f wkst we t+off f wkst,()):=fun t h=>by obtain⟨k,k1,k2,k3,_⟩:=rN1 f iv ct un wkst en mo we yd md dy ho mi se po t h hf hw hl;have e:=aU1 k1;subst e;exact⟨k1,k2,k3⟩
 have hoff:0≤off f wkst∧off f wkst≤2932896:=by unfold off;split <;> (try split) <;> omega
 refine { dmk:=hMk,er:=rfl,es:=rfl,eh:=rfl,em:=rfl,ec:=rfl,inS:=ht,fits:=fun n=>?_,fin:=fun n h=>dD1 h,period:=fun t h=>?_,days:=fun t h=>?_,p5:=fun q t h=>?_,p6:=fun q t h=>?_,p7:=fun q t h=>?_,mono:=fun t t' h h' q=>?_,bd:=fun t h=>(hper t h).2.1,oh:=?_,om:=?_,oc:=?_,fr:=hf,iv:=⟨hp.1.1.2.2.1,hp.1.1.2.2.2.1⟩,lp:=?_ }
 ·exact dN1 f iv ct un wkst en mo we yd md dy ho mi se po s sec n y0 m0 d0 hs hw h0
 ·have a:=hper t h;have b:=hper s ht;have e:per f wkst we t+off f wkst-(per f wkst we s+off f wkst)=per f wkst we t-per f wkst we s:=by omega
  rw[nE.f_eq];simp(disch:=omega)only[ss,a.2.2,b.2.2,e]
 ·obtain⟨A,B,h1,h2,h3⟩:=jI1 f iv ct un wkst en mo we yd md dy ho mi se po s sec (s/86400) y0 m0 d0 (wk (s/86400)) t h hf hw hl;have hd:=rJ h;refine⟨A,B,h3,?_,fun q x hx=>?_,h2⟩
  ·by_cases c:f≤4
   ·have:=pT1 (h1 c) hd;omega
   ·have:=h2 (by omega);omega
  ·have hx':=rJ hx;have q:f≤4:=q
   have hn:∀t,inT t→hE1 f wkst we (t/86400) (per f wkst we t):=fun t h=>by
    rcases(hper t h).1 with⟨_,a⟩ | ⟨z,_⟩ | ⟨z,_⟩ | ⟨z,_⟩
    ·exact a
    ·omega
    ·omega
    ·omega
   have hb:=pT1 (h1 q) hd;refine⟨fun z=>?_,fun z=>(nH1 (h1 q) (hn t h) (hn x hx) hx').1 z⟩;refine Classical.byContradiction fun hc=>?_
   rcases(show x/86400≤A-1∨B+1≤x/86400 by omega)with g | g
   ·have ht1:inT ((A-1)*86400):=by unfold inT;omega
    have n1:=hn _ ht1;have e:(A-1)*86400/86400=A-1:=by omega
    rw[e]at n1;have k1:=(nH1 (h1 q) (hn t h) n1 (by omega)).2.1 rfl;have k2:=kU (hn x hx) n1 g;omega
   ·have ht1:inT ((B+1)*86400):=by unfold inT;omega
    have n1:=hn _ ht1;have e:(B+1)*86400/86400=B+1:=by omega
    rw[e]at n1;have k1:=(nH1 (h1 q) (hn t h) n1 (by omega)).2.2 rfl;have k2:=kU n1 (hn x hx) g;omega
 ·have q:f=5:=q;rcases(hper t h).1 with⟨z,_⟩ | ⟨_,z⟩ | ⟨z,_⟩ | ⟨z,_⟩
  ·omega
  ·exact z
  ·omega
  ·omega
 ·have q:f=6:=q;rcases(hper t h).1 with⟨z,_⟩ | ⟨z,_⟩ | ⟨_,z⟩ | ⟨z,_⟩
  ·omega
  ·omega
  ·exact z
  ·omega
 ·have q:f=7:=q;rcases(hper t h).1 with⟨z,_⟩ | ⟨z,_⟩ | ⟨z,_⟩ | ⟨_,z⟩
  ·omega
  ·omega
  ·omega
  ·exact z
 ·exact jW (hper t h).1 (hper t' h').1 q
 ·exact mJ1 ho _ _ 23 24 hp.2.1.2.2.2.2.1 (by omega) (by omega) (by omega)
 ·exact mJ1 mi _ _ 59 60 hp.2.1.2.2.2.2.2.1 (by omega) (by omega) (by omega)
 ·exact mJ1 se _ _ 59 60 hp.2.1.2.2.2.2.2.2.1 (by omega) (by omega) (by omega)
 ·have:po.length≤60:=hp.2.1.2.2.2.2.2.2.2.1.2;show po.length≤1000;omega
end
theorem hQ1 (r:Rl) (s:Int) (b:Bool) (hM:nA.f r=some (b,())) (h:¬(b=true∧inT s)):
  ∃P:PlT,vC.f r s=some (P,false,()):=by
 rw[vC.f_eq,qR1 r s b hM h];exact⟨_,by simp(disch:=omega)only[ss];rfl⟩
abbrev Sp :=Int×Int×Unit
def nrm (l:List Sp):Prop:=l.Pairwise (fun a b=>a.2.1<b.1) ∧ ∀s∈l,s.1<s.2.1
def push (out:List Sp) (s:Sp):List Sp:=match out.getLast? with
 | none=>[s]
 | some p=>if s.1≤p.2.1 then out.dropLast++[(p.1,mm true p.2.1 s.2.1,())]else out++[s]
theorem bN1 (s:Sp):push [] s=[s]:=rfl
theorem eX (o:List Sp) (p s:Sp):push (o++[p]) s=if s.1≤p.2.1 then o++[(p.1,mm true p.2.1 s.2.1,())]else o++[p]++[s]:=by simp[push]
theorem rM1 (out:List Sp) (s:Sp):(push out s).length≤out.length+1:=by
 rcases gU out with rfl | ⟨o,p,rfl⟩
 ·simp[push]
 ·rw[eX];split <;> simp
structure Put (out:List Sp) (v:Int):Prop where
 nrm:nrm out
 lo:∀s∈out,s.1≤v
theorem fQ1 (l:List Sp) (h:l.length≤1000000) (hb:∀s∈l,(-1000000000000≤s.1∧s.1≤1000000000000) ∧ -1000000000000≤s.2.1∧s.2.1≤1000000000000):
  ∃r,nB.f l ()=some (r,(),())∧r.Perm l∧r.Pairwise (fun x y=>x.1≤y.1):=by
 have hall:l.all xK=true:=vY1.2 fun d hd=>by have:=hb d hd;unfold xK Go.GV.small;simp only[xW1,decide_eq_true_eq];omega
 obtain⟨r,hr⟩:∃r:List Sp,kM xK zf86 cf86 l=some r:=by unfold kM;rw[hall];exact⟨_,rfl⟩
 have hp:List.Perm (α:=Sp) r l:=iN fH1 hr;have hso0:List.Pairwise (α:=Sp) (fun a b=>¬cf86 b a<0) r:=eY fH1 hr;refine⟨r,?_,hp,hso0.imp fun {a b} h=>?_⟩
 ·rw[nB.f_sem];show(bif decide (List.length l≤pC)then(kM xK zf86 cf86 l).map (fun ys=>(ys,(),()))else none)=_;rw[dp (by simp only[pC];omega),cond_true,hr];rfl
 ·have h2:=eE1 b.1 a.1;have h3:decide (sP b.1 a.1<0)=false:=decide_eq_false h;rw[h3]at h2;have:=of_decide_eq_false h2.symm;omega
theorem kS1 (inn:List Sp) (hl:inn.length≤1000000):∀(k i:Nat) (out:List Sp),inn.length-i=k→i≤inn.length→out.length≤i →
  fC.l1 inn inn.length i out=some ((inn.drop i).foldl push out,()):=by
 have hlim:pC=17179869184:=rfl;intro k
 induction k with
 | zero=>
  intro i out hk hi ho;have e:i=inn.length:=by omega
  subst e;rw[fC.l1_eq];simp(disch:=omega)only[ss,jY1,List.foldl_nil]
 | succ k ih=>
  intro i out hk hi ho;have hlt:i<inn.length:=by omega
  have hs:∀s:Sp,(s.1,s.2.1,())=s:=fun s=>rfl
  rw[fC.l1_eq,pB (0,0,()) hlt,List.foldl_cons];have hpl:=rM1 out (inn.getD i (0,0,()));rw[←ih (i+1) (push out (inn.getD i (0,0,()))) (by omega) (by omega) (by omega)];rcases gU out with rfl | ⟨o,p,rfl⟩
  ·rw[bN1];simp(disch:=omega)only[ss,gZ1,sX1,fC.l2_eq,hY1,bY1,hs,hlim];rfl
  ·rw[tH]at ho;rw[eX];simp(disch:=omega)only[ss,tH,mY1,nY1,Int.add_sub_cancel,fC.l2_eq,hY1,hs,tK1,aO1,hlim];by_cases hc:(inn.getD i (0,0,())).1≤p.2.1
   ·simp(disch:=omega)only[ss,if_pos hc]
   ·simp(disch:=omega)only[ss,if_neg hc]
theorem zL1 (l:List Sp) (hl:l.length≤1000000):fC.f l=some (l.foldl push [],()):=by have:=kS1 l hl _ 0 [] rfl (eX1 _) (iX1 _);rw[cY1,sX1]at this;rw[fC.f_eq];exact this
theorem mL1 (a b:List Sp) (hab:a.length=b.length) (hl:a.length≤1000000):∀(k i:Nat),a.length-i=k→i≤a.length→mB.l1 a b (i:Int)=some (decide (a.drop i=b.drop i),()):=by
 intro k
 induction k with
 | zero=>
  intro i hk hi;have e1:a.drop i=[]:=iZ1 (by omega);have e2:b.drop i=[]:=iZ1 (by omega);rw[mB.l1_eq,e1,e2];simp(disch:=omega)only[ss]
 | succ k ih=>
  intro i hk hi;have h1:i<a.length:=by omega
  have h2:i<b.length:=by omega
  have iff2:(a.drop i=b.drop i)↔((a.getD i (0,0,())).1=(b.getD i (0,0,())).1∧(a.getD i (0,0,())).2.1=(b.getD i (0,0,())).2.1)∧a.drop (i+1)=b.drop (i+1):=by
   rw[pB ((0,0,()):Sp) h1,pB ((0,0,()):Sp) h2,List.cons.injEq];constructor
   ·rintro⟨q1,q2⟩;rw[q1];exact⟨⟨rfl,rfl⟩,q2⟩
   ·rintro⟨⟨q1,q2⟩,q3⟩;exact⟨Prod.ext q1 (Prod.ext q2 rfl),q3⟩
  rw[mB.l1_eq];by_cases c1:(a.getD i (0,0,())).1=(b.getD i (0,0,())).1
  ·by_cases c2:(a.getD i (0,0,())).2.1=(b.getD i (0,0,())).2.1
   ·simp(disch:=omega)only[ss,mB.l2_eq];refine(ih (i+1) (by omega) (by omega)).trans ?_;rw[decide_eq_decide.2 (iff2.trans ⟨fun q=>q.2,fun q=>⟨⟨c1,c2⟩,q⟩⟩)]
   ·simp(disch:=omega)only[ss,mB.l2_eq];rw[dn (fun q=>c2 (iff2.1 q).1.2)]
  ·simp(disch:=omega)only[ss,mB.l2_eq];rw[dn (fun q=>c1 (iff2.1 q).1.1)]
theorem zU (a b:List Sp) (hl:a.length≤1000000):mB.f a b=some (decide (a=b),()):=by
 rw[mB.f_eq];by_cases c:a.length=b.length
 ·have:=mL1 a b c hl _ 0 rfl (eX1 _);rw[sX1,cY1,cY1]at this;simp(disch:=omega)only[ss];exact this
 ·simp(disch:=omega)only[ss];rw[dn (fun q=>c (by rw[q]))]
def spF (U:Int→Int) (du hi:Int) (L:List Int):List Sp:=(L.filter fun t=>decide (U t<hi)).map fun t=>(U t,U t+du,())
theorem eS1 {U:Int→Int} {du hi:Int} {L:List Int} {s:Sp}:s∈spF U du hi L ↔ ∃t,t∈L∧U t<hi∧s=(U t,U t+du,()):=by
 unfold spF;rw[pX1];constructor
 ·rintro⟨t,h,rfl⟩;rw[nZ1,decide_eq_true_eq]at h;exact⟨t,h.1,h.2,rfl⟩
 ·rintro⟨t,h1,h2,rfl⟩;exact⟨t,nZ1.2 ⟨h1,dp h2⟩,rfl⟩
theorem iR1 (U:Int→Int) (du hi:Int) (L:List Int):(spF U du hi L).length≤L.length:=by unfold spF;rw[pY1];exact List.length_filter_le _ _
abbrev Zn :Type:=Int×List (Int×Int×Unit)×List (Int×Int×Int×Int×Int×Unit)×Int×Unit
abbrev zZ :Zn:=(0,[],[],0,())
def okU (Z:Zn) (U:Int→Int) (L:List Int):Prop:=∀t∈L,oC.f Z t=some (U t,()) ∧ -500000000000≤U t∧U t≤500000000000
section
variable (zs : List Zn) (hi : Int) (L : List Int) (U : Int → Int)
theorem tM1 (m:Int×Int×Int×Bool×(Int×Int×Int×Int×Int×Bool×List Int×List Int×List Int×List Int×List (Int×Int×Unit)×List Int×List Int×List Int×List Int×Unit)×List Int×List Int×Unit) (hz:0≤m.1∧m.1<(zs.length:Int)) (hl:L.length≤1000000) (hd:0≤m.2.2.1∧m.2.2.1≤2678400) (hU:okU (zs.getD m.1.toNat zZ) U L):∀(k i:Nat) (acc:List Sp),L.length-i=k→i≤L.length→acc.length≤i →
  fB.l2 zs hi L (L.length:Int) (i:Int) m acc=(nB.f (acc++spF U m.2.2.1 hi (L.drop i)) ()).bind fun t7=>(fC.f t7.1).bind fun t8=>some (t8.1,0,()):=by
 have hlim:pC=17179869184:=rfl;intro k
 induction k with
 | zero=>
  intro i acc hk hi' ha;have e:i=L.length:=by omega
  subst e;rw[fB.l2_eq,jY1];simp(disch:=omega)only[ss,show spF U m.2.2.1 hi []=[]from rfl,rX1]
 | succ k ih=>
  intro i acc hk hi' ha;have hlt:i<L.length:=by omega
  obtain⟨u1,u2,u3⟩:=hU (L.getD i 0) (wY 0 hlt)
  have hst:spF U m.2.2.1 hi (L.drop i)=(if U (L.getD i 0)<hi then [(U (L.getD i 0),U (L.getD i 0)+m.2.2.1,())]else [])++spF U m.2.2.1 hi (L.drop (i+1)):=by
   rw[pB 0 hlt];unfold spF;rw[List.filter_cons];by_cases c:U (L.getD i 0)<hi
   ·rw[dp c,if_pos rfl,if_pos c];rfl
   ·rw[dn c,if_neg (by simp),if_neg c];rfl
  rw[fB.l2_eq,hst];simp(disch:=omega)only[ss,u1];by_cases c:U (L.getD i 0)<hi
  ·simp(disch:=omega)only[ss,if_pos c,hY1,hlim];have:=ih (i+1) (acc++[(U (L.getD i 0),U (L.getD i 0)+m.2.2.1,())]) (by omega) (by omega) (by simp;omega);rw[tX1]at this;exact this
  ·simp(disch:=omega)only[ss,if_neg c,bY1];exact ih (i+1) acc (by omega) (by omega) (by omega)
theorem kZ (m:Int×Int×Int×Bool×(Int×Int×Int×Int×Int×Bool×List Int×List Int×List Int×List Int×List (Int×Int×Unit)×List Int×List Int×List Int×List Int×Unit)×List Int×List Int×Unit) (hz:0≤m.1∧m.1<(zs.length:Int)) (hl:L.length≤1000000) (hd:0≤m.2.2.1∧m.2.2.1≤2678400) (hU:okU (zs.getD m.1.toNat zZ) U L):
  ∃r:List Sp,r.Perm (spF U m.2.2.1 hi L)∧r.Pairwise (fun x y=>x.1≤y.1)∧fB.l2 zs hi L (L.length:Int) 0 m []=some (r.foldl push [],0,()):=by
 have h:=tM1 zs hi L U m hz hl hd hU _ 0 [] rfl (eX1 _) (iX1 _);have hsl:=iR1 U m.2.2.1 hi L
 obtain⟨r,h1,h2,h3⟩:=fQ1 (spF U m.2.2.1 hi L) (by omega) fun s hs=>by obtain⟨t,ht,_,rfl⟩:=eS1.1 hs;have:=(hU t ht).2;dsimp only;omega
 refine⟨r,h2,h3,?_⟩;have hrl:=h2.length_eq;rw[cY1,bY1,h1,sX1]at h;rw[h];simp only[wW1];rw[zL1 r (by omega)];rfl
end
end Go.GV.YtegmfagkklekaaaGreatDoor
