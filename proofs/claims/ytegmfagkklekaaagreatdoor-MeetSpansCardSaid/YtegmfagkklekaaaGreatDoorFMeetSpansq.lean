/-
Part of the words that MeetSpans is proved with: no statement of its own, no conditions.
-/
import Derived.Test.YtegmfagkklekaaaGreatDoorFMeetSpansp
set_option linter.unusedVariables false
set_option linter.unusedSimpArgs false
namespace Go.GV
theorem wr {x:Int} (h1: -9223372036854775808≤x) (h2:x≤9223372036854775807):w6 x=x:=Go.IntWalk.i64_in x ⟨h1,h2⟩
theorem jB2 {n:Nat} (h:n<9223372036854775807):w6 ((n:Int)+1)=((n+1:Nat):Int):=by rw[wr (by omega) (by omega)];omega
theorem dp {p:Prop} [Decidable p] (h:p):decide p=true:=decide_eq_true h
theorem dn {p:Prop} [Decidable p] (h:¬p):decide p=false:=decide_eq_false h
theorem uZ1 (n m:Nat):((n:Int)+(m:Int)).toNat=n+m:=by omega
theorem iZ1 (n:Nat):((n:Int)+1).toNat=n+1:=by omega
theorem wY1 (n:Nat):((n:Int)-1).toNat=n-1:=by omega
theorem tn_0 :(0:Int).toNat=0:=rfl
theorem tn_1 :(1:Int).toNat=1:=rfl
theorem ss :(∀(p:Prop) [Decidable p],p→decide p=true)∧(∀(p:Prop) [Decidable p],¬p→decide p=false)∧(∀(h:Decidable True),@decide True h=true)∧(∀(h:Decidable False),@decide False h=false) ∧
  ((!true)=false)∧((!false)=true)∧(∀b,(true&&b)=b)∧(∀b,(false&&b)=false)∧(∀b,(b&&true)=b)∧(∀b,(b&&false)=false) ∧
  (∀b,(true||b)=true)∧(∀b,(false||b)=b)∧(∀b,(b||true)=true)∧(∀b,(b||false)=b)∧(∀(x:Int),-9223372036854775808≤x→x≤9223372036854775807→w6 x=x) ∧
  (∀n m:Nat,((n:Int)+(m:Int)).toNat=n+m)∧(∀n:Nat,((n:Int)+1).toNat=n+1)∧(∀n:Nat,((n:Int)-1).toNat=n-1)∧((0:Int).toNat=0)∧((1:Int).toNat=1)∧(∀n:Nat,(n:Int).toNat=n) ∧
  (∀(α:Type) (a b:α),(bif true then a else b)=a)∧(∀(α:Type) (a b:α),(bif false then a else b)=b)∧(∀(α β:Type) (a:α) (f:α→Option β),(some a).bind f=f a):=
 ⟨fun _=>dp,fun _=>dn,fun _=>decide_true _,fun _=>decide_false _,rfl,rfl,Bool.true_and,Bool.false_and,zH2,Bool.and_false,Bool.true_or,Bool.false_or,Bool.or_true,Bool.or_false,fun _=>wr,uZ1,iZ1,wY1,tn_0,tn_1,fun _=>rfl,fun _ _ _=>rfl,fun _ _ _=>rfl,fun _ _ _ _=>rfl⟩
abbrev B (s:ByteArray):List UInt8:=s.data.toList
def mkS (l:List UInt8):ByteArray:=⟨l.toArray⟩
theorem B_mk (l:List UInt8):B (mkS l)=l:=rfl
theorem mk_B (s:ByteArray):mkS (B s)=s:=rfl
theorem gU1 {a b:ByteArray} (h:B a=B b):a=b:=by rw[←mk_B a,←mk_B b,h]
theorem tV1 (s:ByteArray):s.size=(B s).length:=by cases s;simp[ByteArray.size,B]
theorem rA2 (s:ByteArray) (a b:Nat):B (s.extract a b)=((B s).drop a).take (b-a):=by obtain⟨⟨l⟩⟩:=s;rw[ByteArray.extract_mk]
theorem nI1 (s:ByteArray):s.toList=B s:=ByteArray.toList_eq s
theorem nD2 (a b:ByteArray):(a.toList==b.toList)=decide (a=b):=by rw[nI1,nI1,Bool.eq_iff_iff,beq_iff_eq,decide_eq_true_eq];exact⟨gU1,fun h=>by rw[h]⟩
theorem wA2 (s:ByteArray) (k:Nat):B (s.extract 0 k)=(B s).take k:=by rw[rA2];simp
theorem nV1 (s:ByteArray) (k:Nat):B (s.extract k s.size)=(B s).drop k:=by rw[rA2,tV1,cF2 (by simp)]
def I (l:List UInt8):List Int:=l.map fun b=>(b.toNat:Int)
theorem okI {a:List Int} (h:∀x∈a,vW1 .u8 x):a=I (a.map fun n=>UInt8.ofNat n.toNat):=by simp only[I,List.map_map];refine(List.map_id a).symm.trans (oH2 fun x hx=>?_);have h1:=h x hx;simp only[vW1]at h1;have h2:(0:Int)≤x∧x≤255:=h1;simp only[Function.comp,id,UInt8.toNat_ofNat'];omega
theorem qP1 {α:Type} (l:List α) (i:Nat) (d:α) (h:i<l.length):l.drop i=l.getD i d::l.drop (i+1):=by rw[oE2,sE2 h,zG2];exact List.drop_eq_getElem_cons h
theorem vD1 {α:Type} (o:List α) (p z:α):(o++[p]).getD o.length z=p:=by simp[oE2]
theorem eI1 {α:Type} (o:List α) (p v:α):(o++[p]).set o.length v=o++[v]:=by simp
theorem nG {α:Type} (o:List α) (p:α):(o++[p]).length=o.length+1:=by simp
theorem vA1 {n:Nat} (h0:0<n) (h:n<4611686018427387904):w6 ((n:Int)-1)=((n-1:Nat):Int):=by rw[wr (by omega) (by omega)];omega
theorem bX1 {n:Nat} (h:n<4611686018427387904):w6 ((n:Int)+1)=((n+1:Nat):Int):=jB2 (by omega)
theorem fO {α:Type} (l:List α):l=[] ∨ ∃o p,l=o++[p]:=by
 rcases List.eq_nil_or_concat l with h | ⟨o,p,h⟩
 ·exact .inl h
 ·exact .inr ⟨o,p,by simpa using h⟩
theorem kN {α:Type} {l:List α} {i:Nat} (z:α) (h:i<l.length):l.getD i z=l[i]:=by simp[oE2,h]
theorem cW {α:Type} {l:List α} {i:Nat} (z:α) (h:i<l.length):l.getD i z∈l:=by rw[kN z h];exact List.getElem_mem h
theorem iB {α:Type} {l:List α} {i:Nat} (z:α) (h:i<l.length):l.drop i=l.getD i z::l.drop (i+1):=qP1 l i z h
theorem rK {α:Type} {l:List α} {i:Nat} (z:α) (h:i<l.length):l.take (i+1)=l.take i++[l.getD i z]:=by rw[List.take_add_one,sE2 h,kN z h];rfl
theorem kL1 {α:Type} {R:α→α→Prop} {l:List α} {x:α} {k:Nat} (hs:l.Pairwise R) (h1:∀a∈l.take k,R a x) (h2:∀a∈l.drop k,R x a):(l.take k++([x]++l.drop k)).Pairwise R:=by
 rw[List.singleton_append];refine aG2.2 ⟨hs.sublist (List.take_sublist k l),xF2.2 ⟨h2,hs.sublist (List.drop_sublist k l)⟩,?_⟩;intro a ha b hb;rcases pE2.1 hb with rfl | hb
 ·exact h1 a ha
 ·have:=hs;rw[←hG2 k l]at this;exact(aG2.1 this).2.2 a ha b hb
theorem vS1 {α:Type} (l:List α) (x:α) (k:Nat):(l.take k++([x]++l.drop k)).Perm (x::l):=by
 have h:(l.take k++([x]++l.drop k)).Perm (x::(l.take k++l.drop k)):=by rw[List.singleton_append];exact List.perm_middle
 rwa[hG2]at h
theorem jO1 {α:Type} (key:α→Int) {l:List α} (hs:l.Pairwise fun a b=>key a≤key b) (v:Int) (z:α) {k:Nat} (hk:k≤l.length) (h1:∀j,k≤j→j<l.length→v<key (l.getD j z)) (h2:k=0∨key (l.getD (k-1) z)≤v):
  (∀a∈l.take k,key a≤v)∧(∀a∈l.drop k,v<key a):=by
 constructor
 ·intro a ha;obtain⟨j,hj,e⟩:=oG2 ha;have hjk:j<k:=by have:=hj;rw[fF2]at this;omega
  rcases h2 with h2 | h2
  ·omega
  ·have e2:a=l[j]:=by rw[←e,List.getElem_take]
   rw[e2];rw[kN z (by omega)]at h2;by_cases hjk':j=k-1
   ·subst hjk';exact h2
   ·exact Int.le_trans (tH2.1 hs j (k-1) (by omega) (by omega) (by omega)) h2
 ·intro a ha;obtain⟨j,hj,e⟩:=oG2 ha;rw[fG2]at hj;have:=h1 (k+j) (by omega) (by omega);rw[kN z (by omega)]at this;rw[←e,List.getElem_drop];exact this
theorem tY (a b:Int):mm true a b=max a b:=by unfold mm;simp only[cond_true];split <;> omega
theorem zB1 (a b:Int):mm false a b=min a b:=by unfold mm;simp only[cond_false];split <;> omega
end Go.GV
namespace Go.GV.YtegmfagkklekaaaGreatDoor
open Go.Proofs
def bL (y:Int):Bool:=decide (y%4=0)&&(!decide (y%100=0)||decide (y%400=0))
def mlen (y m:Int):Int:=if m=2 then(if bL y=true then 29 else 28)else if m=4∨m=6∨m=9∨m=11 then 30 else if 1≤m∧m≤12 then 31 else 0
def cumT (m:Int):Int:=if m≤1 then 0 else if m=2 then 31 else if m=3 then 59 else if m=4 then 90 else if m=5 then 120 else if m=6 then 151 else if m=7 then 181 else if m=8 then 212 else if m=9 then 243 else if m=10 then 273 else if m=11 then 304 else if m=12 then 334 else 365
def cum (y m:Int):Int:=cumT m+if 3≤m∧bL y=true then 1 else 0
def fst_ (y:Int):Int:=365*(y-1)+(y-1)/4-(y-1)/100+(y-1)/400-719162
theorem tmn {n:Int} (h:0≤n) (k:Int):Int.tmod n k=n%k:=Int.tmod_eq_emod_of_nonneg h
theorem tdn {n:Int} (h:0≤n) (k:Int):Int.tdiv n k=n/k:=Int.tdiv_eq_ediv_of_nonneg h
theorem eU (y:Int) (hy:0≤y):vJ.f y=some (bL y,()):=by
 rw[vJ.f_eq];simp only[tmn hy];unfold bL;by_cases h1:y%4=0
 ·by_cases h2:y%100=0
  ·by_cases h3:y%400=0
   ·simp(disch:=omega)only[ss]
   ·simp(disch:=omega)only[ss]
  ·simp(disch:=omega)only[ss]
 ·simp(disch:=omega)only[ss]
theorem uQ (y:Int) (hy:0≤y):eG.f y=some (bL y,()):=by have:=eU y hy;rw[vJ.f_eq]at this;rw[eG.f_eq];exact this
theorem tI (y m:Int) (hy:0≤y):mB.f y m=some (mlen y m,()):=by
 have hL:=eU y hy;rw[mB.f_eq];unfold mlen;by_cases h2:m=2
 ·subst h2;simp(disch:=omega)only[ss,mB.l1_eq,hL];cases bL y <;> rfl
 ·rw[if_neg h2];by_cases h4:m=4∨m=6∨m=9∨m=11
  ·rw[if_pos h4];rcases h4 with rfl | rfl | rfl | rfl
   all_goals (simp(disch:=omega)only[ss,mB.l1_eq])
  ·rw[if_neg h4];by_cases hr:1≤m∧m≤12
   ·rw[if_pos hr];have:m=1∨m=3∨m=5∨m=7∨m=8∨m=10∨m=12:=by omega
    rcases this with rfl | rfl | rfl | rfl | rfl | rfl | rfl
    all_goals (simp(disch:=omega)only[ss,mB.l1_eq,mB.l2_eq])
   ·rw[if_neg hr];simp(disch:=omega)only[ss,mB.l1_eq,mB.l2_eq]
theorem mH (y m:Int) (hy:0≤y):sA.f y m=some (mlen y m,()):=by
 have hL:=uQ y hy;rw[sA.f_eq];unfold mlen;by_cases h2:m=2
 ·subst h2;simp(disch:=omega)only[ss,sA.l1_eq,sA.l2_eq,hL];cases bL y <;> rfl
 ·rw[if_neg h2];by_cases h4:m=4∨m=6∨m=9∨m=11
  ·rw[if_pos h4];rcases h4 with rfl | rfl | rfl | rfl
   all_goals (simp(disch:=omega)only[ss,sA.l1_eq,sA.l2_eq])
  ·rw[if_neg h4];by_cases hr:1≤m∧m≤12
   ·rw[if_pos hr];have:m=1∨m=3∨m=5∨m=7∨m=8∨m=10∨m=12:=by omega
    rcases this with rfl | rfl | rfl | rfl | rfl | rfl | rfl
    all_goals (simp(disch:=omega)only[ss,sA.l1_eq])
   ·rw[if_neg hr];simp(disch:=omega)only[ss,sA.l1_eq,sA.l2_eq]
theorem qH (y m:Int):0≤mlen y m∧mlen y m≤31∧(0<mlen y m→1≤m∧m≤12):=by
 unfold mlen;split
 ·cases bL y <;> (simp;omega)
 ·split
  ·omega
  ·split <;> omega
theorem oE (y m:Int) (h1:1≤m) (h2:m≤12):cum y (m+1)=cum y m+mlen y m:=by
 have:m=1∨m=2∨m=3∨m=4∨m=5∨m=6∨m=7∨m=8∨m=9∨m=10∨m=11∨m=12:=by omega
 unfold cum mlen cumT;cases bL y <;> (rcases this with rfl | rfl | rfl | rfl | rfl | rfl | rfl | rfl | rfl | rfl | rfl | rfl <;> simp)
theorem eJ (y m:Int):0≤cum y m∧cum y m≤366:=by unfold cum cumT;split <;> (try split) <;> (repeat' split) <;> omega
def pJ (y m d:Int):Bool:=decide (1≤y)&&decide (y≤9999)&&decide (1≤d)&&decide (d≤mlen y m)
theorem wJ1 (y m d:Int):eL.f y m d=some (pJ y m d,()):=by
 rw[eL.f_eq,aJ.f_eq];unfold pJ;by_cases h1:1≤y
 ·have hL:=tI y m (by omega);by_cases h2:y≤9999
  ·by_cases h3:1≤d
   ·simp(disch:=omega)only[ss,hL,ge_iff_le]
   ·simp(disch:=omega)only[ss,hL,ge_iff_le]
  ·simp(disch:=omega)only[ss,ge_iff_le]
 ·simp(disch:=omega)only[ss,ge_iff_le]
theorem qN (y m d:Int) (hy:1≤y) (hy2:y≤10000) (hm:1≤m) (hm2:m≤12) (hd:1≤d) (hd2:d≤31):dE.f y m d=some (fst_ y+d-1+cum y m,()):=by
 rw[dE.f_eq];by_cases h3:m<3
 ·simp(disch:=omega)only[ss,tdn (show 0≤y-1+400 by omega),tdn (show 0≤153*(m+12-3)+2 by omega)]
  congr 2
  unfold fst_ cum cumT;have:m=1∨m=2:=by omega
  rcases this with rfl | rfl
  ·simp;omega
  ·simp;omega
 ·simp(disch:=omega)only[ss,tdn (show 0≤y+400 by omega),tdn (show 0≤153*(m-3)+2 by omega)]
  congr 2
  unfold fst_ cum cumT
  have e:(if 3≤m∧bL y=true then(1:Int)else 0)=y/4-(y-1)/4-(y/100-(y-1)/100)+(y/400-(y-1)/400):=by
   unfold bL;by_cases h1:y%4=0
   ·by_cases h2:y%100=0
    ·by_cases h5:y%400=0
     ·rw[if_pos ⟨by omega,by simp[h1,h2,h5]⟩];omega
     ·rw[if_neg (by simp[h1,h2,h5])];omega
    ·rw[if_pos ⟨by omega,by simp[h1,h2]⟩];omega
   ·rw[if_neg (by simp[h1])];omega
  rw[e];have:m=3∨m=4∨m=5∨m=6∨m=7∨m=8∨m=9∨m=10∨m=11∨m=12:=by omega
  rcases this with rfl | rfl | rfl | rfl | rfl | rfl | rfl | rfl | rfl | rfl
  all_goals (simp;omega)
theorem gW (n k:Int) (hn:0≤n) (hn2:n≤1000000) (hk:0<k) (hk2:k≤1000):eF.f n k=some (n/k,()):=by have h1:0≤n%k:=Int.emod_nonneg n (by omega);have h2:0≤n/k:=Int.ediv_nonneg hn (by omega);have h3:n/k≤n:=Int.ediv_le_self k hn;rw[eF.f_eq,tmn hn,tdn hn];simp(disch:=omega)only[ss]
theorem wJ (y:Int) (hy:1≤y) (hy2:y≤10001):rC.f y=some (fst_ y,()):=by rw[rC.f_eq];have hw:w6 (y-1)=y-1:=wr (by omega) (by omega);rw[hw,gW (y-1) 4 (by omega) (by omega) (by omega) (by omega),gW (y-1) 100 (by omega) (by omega) (by omega) (by omega),gW (y-1) 400 (by omega) (by omega) (by omega) (by omega)];simp(disch:=omega)only[ss];rfl
theorem tQ (y:Int) (hy:1≤y) (hy2:y≤10001): -1000000≤fst_ y∧fst_ y≤4000000:=by unfold fst_;omega
theorem yC1 (y m d:Int):zI.f y m d=some (if pJ y m d=true then(fst_ y+d-1+cum y m,0,())else(0,1,())):=by
 have h1:=wJ1 y m d;rw[zI.f_eq,h1]
 cases hv:pJ y m d with
 | false=>rfl
 | true=>
  unfold pJ at hv;simp only[iE2,decide_eq_true_eq]at hv;obtain⟨⟨⟨h3,h4⟩,h5⟩,h6⟩:=hv;have hb:=qH y m;have hm:=hb.2.2 (by omega);have hN:=qN y m d h3 (by omega) hm.1 hm.2 h5 (by omega);have hfb:=tQ y h3 (by omega);have hcb:=eJ y m;rw[if_pos rfl];simp(disch:=omega)only[ss,hN]
theorem lH (y:Int) (hy:1≤y):fst_ (y+1)=fst_ y+cum y 13:=by
 unfold fst_ cum cumT
 have e:(if 3≤(13:Int)∧bL y=true then(1:Int)else 0)=y/4-(y-1)/4-(y/100-(y-1)/100)+(y/400-(y-1)/400):=by
  unfold bL;by_cases h1:y%4=0
  ·by_cases h2:y%100=0
   ·by_cases h5:y%400=0
    ·rw[if_pos ⟨by omega,by simp[h1,h2,h5]⟩];omega
    ·rw[if_neg (by simp[h1,h2,h5])];omega
   ·rw[if_pos ⟨by omega,by simp[h1,h2]⟩];omega
  ·rw[if_neg (by simp[h1])];omega
 rw[e];simp;omega
theorem eD1 (y:Int):365≤cum y 13∧cum y 13≤366:=by unfold cum cumT;split <;> (simp;try omega)
theorem yZ {a b:Int} (h0:1≤a) (h:a<b):fst_ a+365≤fst_ b:=by
 obtain⟨k,hk⟩:=aI2 (show 0≤b-a-1 by omega);have e:b=a+1+(k:Int):=by omega
 subst e;clear hk h
 induction k with
 | zero=>
  have:=lH a h0;have:=eD1 a;simp;omega
 | succ k ih=>
  have:=lH (a+1+(k:Int)) (by omega);have:=eD1 (a+1+(k:Int));rw[show a+1+((k+1:Nat):Int)=a+1+(k:Int)+1 by omega];omega
theorem tD {a b:Int} (h0:1≤a) (h:a≤b):fst_ a≤fst_ b:=by
 rcases Int.lt_or_eq_of_le h with h | h
 ·have:=yZ h0 h;omega
 ·rw[h];exact vF2 _
theorem dC1 :fst_ 1 = -719162:=by decide
theorem lJ :fst_ 10000=2932897:=by decide
theorem rD1 (y:Int):cum y 1=0:=by unfold cum cumT;simp
theorem mK (y:Int) {a b:Int} (h0:1≤a) (h:a≤b) (h1:b≤13):cum y a≤cum y b:=by
 obtain⟨k,hk⟩:=aI2 (show 0≤b-a by omega);have e:b=a+(k:Int):=by omega
 subst e;clear hk h
 induction k with
 | zero=>simp
 | succ k ih=>
  have:=ih (by omega);have h2:=oE y (a+(k:Int)) (by omega) (by omega);have:=qH y (a+(k:Int));rw[show a+((k+1:Nat):Int)=a+(k:Int)+1 by omega,h2];omega
theorem pY1 (n:Int) (h1: -719162≤n) (h2:n≤2932896):∃y,1≤y∧y≤9999∧fst_ y≤n∧n<fst_ (y+1):=by
 have key:∀k:Nat,k≤9999→n<fst_ (1+(k:Int)) → ∃y,1≤y∧y≤9999∧fst_ y≤n∧n<fst_ (y+1):=by
  intro k
  induction k with
  | zero=>
   intro _ h;rw[show(1:Int)+((0:Nat):Int)=1 from rfl,dC1]at h;omega
  | succ k ih=>
   intro hk h;by_cases c:n<fst_ (1+(k:Int))
   ·exact ih (by omega) c
   ·exact⟨1+(k:Int),by omega,by omega,by omega,by rw[show(1:Int)+(k:Int)+1=1+((k+1:Nat):Int) by omega];exact h⟩
 refine key 9999 (rE2 _) ?_;rw[show(1:Int)+((9999:Nat):Int)=10000 from rfl,lJ];omega
theorem xS1 (y d:Int) (h1:0≤d) (h2:d<cum y 13):∃m,1≤m∧m≤12∧cum y m≤d∧d<cum y (m+1):=by
 have key:∀k:Nat,k≤12→d<cum y (1+(k:Int)) → ∃m,1≤m∧m≤12∧cum y m≤d∧d<cum y (m+1):=by
  intro k
  induction k with
  | zero=>
   intro _ h;rw[show(1:Int)+((0:Nat):Int)=1 from rfl,rD1]at h;omega
  | succ k ih=>
   intro hk h;by_cases c:d<cum y (1+(k:Int))
   ·exact ih (by omega) c
   ·exact⟨1+(k:Int),by omega,by omega,by omega,by rw[show(1:Int)+(k:Int)+1=1+((k+1:Nat):Int) by omega];exact h⟩
 exact key 12 (rE2 _) h2
def iH (n y m d:Int):Prop:=pJ y m d=true∧fst_ y+d-1+cum y m=n
theorem eC {y m d:Int}:pJ y m d=true↔1≤y∧y≤9999∧1≤d∧d≤mlen y m:=by unfold pJ;simp only[iE2,decide_eq_true_eq,and_assoc]
theorem mF {n y m d:Int} (h:iH n y m d):fst_ y≤n∧n<fst_ (y+1)∧1≤m∧m≤12 ∧ -719162≤n∧n≤2932896:=by obtain⟨h1,h2⟩:=h;obtain⟨h3,h4,h5,h6⟩:=eC.1 h1;have hm:=(qH y m).2.2 (by omega);have hc:=oE y m hm.1 hm.2;have hb:=eJ y m;have hs:=lH y h3;have hmo:=mK y (a:=m+1) (b:=13) (by omega) (by omega) (by omega);have h7:=tD (a:=1) (b:=y) (by omega) h3;have h8:=tD (a:=y+1) (b:=10000) (by omega) (by omega);rw[dC1]at h7;rw[lJ]at h8;exact⟨by omega,by omega,hm.1,hm.2,by omega,by omega⟩
theorem uB2 (y d0 M:Int) (hy:1≤y) (hy2:y≤9999) (h1:0≤d0) (h2:M≤12) (h3:cum y M≤d0) (h4:d0<cum y (M+1)):∀(k:Nat) (m:Int),M-m=k→1≤m →
  zA.l5 y (d0-cum y m) m=some (y,M,d0-cum y M+1,0,())∧lB.l2 y (d0-cum y m) m=some (y,M,d0-cum y M+1,0,()):=by
 intro k
 induction k with
 | zero=>
  intro m hk hm;have e:m=M:=by omega
  subst e;have hc:=oE y m hm h2;have hb:=eJ y m;have hb2:=eJ y (m+1);rw[zA.l5_eq,lB.l2_eq,tI y m (by omega),mH y m (by omega)];simp(disch:=omega)only[ss,ge_iff_le];exact⟨trivial,trivial⟩
 | succ k ih=>
  intro m hk hm;have hc:=oE y m hm (by omega);have hmo:=mK y (a:=m+1) (b:=M) (by omega) (by omega) (by omega);have hb:=eJ y m;have hb1:=eJ y M;have hb2:=eJ y (m+1);have hb3:=eJ y (M+1);rw[zA.l5_eq,lB.l2_eq,tI y m (by omega),mH y m (by omega)];have e:d0-cum y m-mlen y m=d0-cum y (m+1):=by omega
  simp(disch:=omega)only[ss,ge_iff_le];rw[e];exact ih (m+1) (by omega) (by omega)
theorem kS1 (y:Int) (hy:1≤y) (hy2:y≤10000):dE.f y 1 1=some (fst_ y,()):=by
 rw[qN y 1 1 hy hy2 (by omega) (by omega) (by omega) (by omega),rD1]
 congr 2
 omega
theorem iB2 (n Y:Int) (hY:1≤Y) (h1:fst_ Y≤n) (h2:n<fst_ (Y+1)):∀(k:Nat) (z:Int),z-Y=k→z≤9999→zA.l4 n z=zA.l5 Y (n-fst_ Y) 1:=by
 intro k;have hfb:=tQ (Y+1) (by omega)
 induction k with
 | zero=>
  intro z hk hz;have e:z=Y:=by omega
  subst e;have hfb:=tQ z (by omega) (by omega);have hfb1:=tQ (z+1) (by omega) (by omega);rw[zA.l4_eq,kS1 z (by omega) (by omega)];simp(disch:=omega)only[ss,gt_iff_lt]
 | succ k ih=>
  intro z hk hz;have hm:=tD (a:=Y+1) (b:=z) (by omega) (by omega);have hfb:=tQ z (by omega) (by omega);rw[zA.l4_eq,kS1 z (by omega) (by omega)];simp(disch:=omega)only[ss,gt_iff_lt];exact ih (z-1) (by omega) (by omega)
theorem yZ1 (n Y:Int) (hY:1≤Y) (hY2:Y≤9999) (h1:fst_ Y≤n) (h2:n<fst_ (Y+1)):∀(k:Nat) (y:Int),(Y-y).toNat=k→1≤y→y≤9999 → ∃z,Y≤z∧z≤9999∧zA.l1 n y=zA.l4 n z:=by
 intro k
 induction k with
 | zero=>
  intro y hk hy hy2;refine⟨y,by omega,hy2,?_⟩;rw[zA.l1_eq];by_cases c:y<9999
  ·have hm:=tD (a:=Y+1) (b:=y+1) (by omega) (by omega);have hw:w6 (y+1)=y+1:=wr (by omega) (by omega);rw[hw,kS1 (y+1) (by omega) (by omega)];simp(disch:=omega)only[ss,zA.l2_eq,zA.l3_eq]
  ·simp(disch:=omega)only[ss,zA.l2_eq,zA.l3_eq]
 | succ k ih=>
  intro y hk hy hy2;have hm:=tD (a:=y+1) (b:=Y) (by omega) (by omega);have hw:w6 (y+1)=y+1:=wr (by omega) (by omega);obtain⟨z,z1,z2,z3⟩:=ih (y+1) (by omega) (by omega) (by omega);refine⟨z,z1,z2,?_⟩;rw[zA.l1_eq,hw,kS1 (y+1) (by omega) (by omega)];simp(disch:=omega)only[ss,zA.l2_eq];exact z3
theorem qY1 (n Y:Int) (hY:1≤Y) (hY2:Y≤9999) (h1:fst_ Y≤n) (h2:n<fst_ (Y+1)):∀(k:Nat) (y:Int),Y-y=k→1≤y→lB.l1 n y=lB.l2 Y (n-fst_ Y) 1:=by
 intro k
 induction k with
 | zero=>
  intro y hk hy;have e:y=Y:=by omega
  subst e;have hfb:=tQ y (by omega) (by omega);have hfb1:=tQ (y+1) (by omega) (by omega);have hw:w6 (y+1)=y+1:=wr (by omega) (by omega);rw[lB.l1_eq,hw,wJ (y+1) (by omega) (by omega),wJ y (by omega) (by omega)];simp(disch:=omega)only[ss]
 | succ k ih=>
  intro y hk hy;have hm:=tD (a:=y+1) (b:=Y) (by omega) (by omega);have hw:w6 (y+1)=y+1:=wr (by omega) (by omega);rw[lB.l1_eq,hw,wJ (y+1) (by omega) (by omega)];simp(disch:=omega)only[ss];exact ih (y+1) (by omega) (by omega)
theorem kJ (n:Int) (h1: -719162≤n) (h2:n≤2932896):∃y m d,iH n y m d∧zA.f n=some (y,m,d,0,())∧lB.f n=some (y,m,d,0,()):=by
 obtain⟨Y,y1,y2,y3,y4⟩:=pY1 n h1 h2;have hs:=lH Y y1;obtain⟨M,m1,m2,m3,m4⟩:=xS1 Y (n-fst_ Y) (by omega) (by omega);have hc:=oE Y M m1 m2;have h5:=uB2 Y (n-fst_ Y) M y1 y2 (by omega) m2 m3 m4 (M-1).toNat 1 (by omega) (by omega);rw[rD1,Int.sub_zero]at h5;refine⟨Y,M,n-fst_ Y-cum Y M+1,⟨eC.2 ⟨y1,y2,by omega,by omega⟩,by omega⟩,?_,?_⟩
 ·have hz1:(n+719162)*400/146097+1≤9999:=by omega
  obtain⟨z,z1,z2,z3⟩:=yZ1 n Y y1 y2 y3 y4 _ ((n+719162)*400/146097+1) rfl (by omega) hz1;have h4:=iB2 n Y y1 y3 y4 (z-Y).toNat z (by omega) z2;rw[zA.f_eq,gN.f_eq];have e1:w6 (n - -719162)=n+719162:=by rw[wr (by omega) (by omega)];omega
  have e2:w6 ((n+719162)*400)=(n+719162)*400:=wr (by omega) (by omega);simp(disch:=omega)only[ss,e1,e2,tdn (show 0≤(n+719162)*400 by omega),ge_iff_le];rw[z3,h4];exact h5.1
 ·have hlow:fst_ (Y+1) ≤ -719162+366*Y:=by unfold fst_;omega
  have hv:=qY1 n Y y1 y2 y3 y4 (Y-((n+719162)/366+1)).toNat ((n+719162)/366+1) (by omega) (by omega);have e1:w6 (n - -719162)=n+719162:=by rw[wr (by omega) (by omega)];omega
  rw[lB.f_eq,wL.f_eq,wJ 1 (by omega) (by omega),wJ 10000 (by omega) (by omega),dC1,lJ];simp(disch:=omega)only[ss,e1,tdn (show 0≤n+719162 by omega),ge_iff_le];rw[hv];exact h5.2
theorem vN1 (n:Int) (h:¬(-719162≤n∧n≤2932896)):zA.f n=some (0,0,0,1,())∧lB.f n=some (0,0,0,1,()):=by
 rw[zA.f_eq,gN.f_eq,lB.f_eq,wL.f_eq,wJ 1 (by omega) (by omega),wJ 10000 (by omega) (by omega),dC1,lJ];by_cases c: -719162≤n
 ·simp(disch:=omega)only[ss,ge_iff_le];exact⟨trivial,trivial⟩
 ·simp(disch:=omega)only[ss,ge_iff_le];exact⟨trivial,trivial⟩
theorem iN {n y m d y' m' d':Int} (h:iH n y m d) (g:iH n y' m' d'):y=y'∧m=m'∧d=d':=by
 obtain⟨h1,h2,h3,h4,_⟩:=mF h;obtain⟨g1,g2,g3,g4,_⟩:=mF g;obtain⟨a1,a2,a3,a4⟩:=eC.1 h.1;obtain⟨b1,b2,b3,b4⟩:=eC.1 g.1;have e:y=y':=by
  rcases yH2 y y' with c | c | c
  ·have:=tD (a:=y+1) (b:=y') (by omega) (by omega);omega
  ·exact c
  ·have:=tD (a:=y'+1) (b:=y) (by omega) (by omega);omega
 subst e;have hh:=h.2;have hg:=g.2;have c1:=oE y m h3 h4;have c2:=oE y m' g3 g4;have em:m=m':=by
  rcases yH2 m m' with c | c | c
  ·have:=mK y (a:=m+1) (b:=m') (by omega) (by omega) (by omega);omega
  ·exact c
  ·have:=mK y (a:=m'+1) (b:=m) (by omega) (by omega) (by omega);omega
 subst em;exact⟨rfl,rfl,by omega⟩
theorem tdm (t k:Int) (hk:0<k):Int.tdiv t k=(if t%k≠0∧t<0 then t/k+1 else t/k)∧Int.tmod t k=(if t%k≠0∧t<0 then t%k-k else t%k):=by
 by_cases h:0≤t
 ·rw[if_neg (by omega),if_neg (by omega)];exact⟨tdn h k,tmn h k⟩
 ·have e:t = -(-t):=by omega
  have h1:Int.tdiv t k = -((-t)/k):=by rw[e,Int.neg_tdiv,tdn (by omega),Int.neg_neg]
  have h2:Int.tmod t k = -((-t)%k):=by rw[e,Int.neg_tmod,tmn (by omega),Int.neg_neg]
  have h3:=Int.emod_add_mul_ediv t k;have h4:=Int.emod_add_mul_ediv (-t) k;have b1:=Int.emod_nonneg t (show k≠0 by omega);have b2:=dI2 t hk;have b3:=Int.emod_nonneg (-t) (show k≠0 by omega);have b4:=dI2 (-t) hk;rw[h1,h2];by_cases hz:t%k=0
  ·rw[if_neg (by omega),if_neg (by omega)];have hz2:(-t)%k=0:=by have:k∣t:=Int.dvd_of_emod_eq_zero hz;exact Int.emod_eq_zero_of_dvd (Int.dvd_neg.2 this)
   have:(-t)/k = -(t/k):=Int.neg_ediv_of_dvd (Int.dvd_of_emod_eq_zero hz);exact⟨by omega,by omega⟩
  ·rw[if_pos ⟨hz,by omega⟩,if_pos ⟨hz,by omega⟩];have hq:(-t)%k=k-t%k:=by
    have e1: -t=(k-t%k)+k*(-(t/k)-1):=by rw[Int.mul_sub,Int.mul_neg];omega
    rw[e1,Int.add_mul_emod_self_left,Int.emod_eq_of_lt (by omega) (by omega)]
   have hd:(-t)/k = -(t/k)-1:=by
    have:k*((-t)/k)=k*(-(t/k)-1):=by rw[Int.mul_sub,Int.mul_neg];omega
    exact Int.eq_of_mul_eq_mul_left (by omega) this
   exact⟨by omega,by omega⟩
theorem qF (t:Int) (h1: -9000000000000000000≤t) (h2:t≤9000000000000000000):uF.f t=some (t/86400,t%86400,())∧iG.f t=some (t/86400,t%86400,()):=by
 obtain⟨e1,e2⟩:=tdm t 86400 (by omega);rw[uF.f_eq,iG.f_eq,eF.f_eq,e1,e2];by_cases c:t%86400≠0∧t<0
 ·rw[if_pos c,if_pos c];have q1:t/86400+1-1=t/86400:=by omega
  have q2:t%86400-86400+86400=t%86400:=by omega
  simp(disch:=omega)only[ss,q1,q2];exact⟨trivial,trivial⟩
 ·rw[if_neg c,if_neg c];simp(disch:=omega)only[ss];exact⟨trivial,trivial⟩
theorem oH (t:Int):eH.f t=some (decide (-62135596800≤t∧t≤253402300799),())∧vD.f t=some (decide (-62135596800≤t∧t≤253402300799),()):=by
 rw[eH.f_eq,vD.f_eq];by_cases c: -62135596800≤t
 ·by_cases c2:t≤253402300799
  ·simp(disch:=omega)only[ss,ge_iff_le];exact⟨trivial,trivial⟩
  ·simp(disch:=omega)only[ss,ge_iff_le];exact⟨trivial,trivial⟩
 ·simp(disch:=omega)only[ss,ge_iff_le];exact⟨trivial,trivial⟩
def wk (n:Int):Int:=(n+3)%7
theorem tK1 (n:Int):0≤wk n∧wk n≤6:=by unfold wk;omega
theorem xI (n:Int):lF.f n=some (wk n,()):=by
 obtain⟨_,e⟩:=tdm n 7 (by omega);rw[lF.f_eq,e];unfold wk;by_cases c:n%7≠0∧n<0
 ·rw[if_pos c];simp(disch:=omega)only[ss,tmn (show(0:Int)≤n%7-7+7+3 by omega)]
  congr 2
  omega
 ·rw[if_neg c];simp(disch:=omega)only[ss,tmn (show(0:Int)≤n%7+7+3 by omega)]
  congr 2
  omega
theorem cF (n:Int):qE.f n=some (wk n,()):=by
 obtain⟨_,e⟩:=tdm n 7 (by omega);rw[qE.f_eq,e];unfold wk;by_cases c:n%7≠0∧n<0
 ·rw[if_pos c];simp(disch:=omega)only[ss,tmn (show(0:Int)≤n%7-7+10 by omega)]
  congr 2
  omega
 ·rw[if_neg c];simp(disch:=omega)only[ss,tmn (show(0:Int)≤n%7+10 by omega)]
  congr 2
  omega
theorem numJ (y:Int) (hy:0≤y) (hy2:y≤10001):dE.f y 1 1=some (fst_ y,()):=by
 rw[dE.f_eq];simp(disch:=omega)only[ss,tdn (show 0≤y-1+400 by omega),tdn (show(0:Int)≤153*(1+12-3)+2 by omega)]
 congr 2
 unfold fst_;omega
def w1 (y w:Int):Int:=fst_ y+3-(fst_ y+6-w)%7
theorem vH (y:Int) (hy:0≤y) (hy2:y≤10001): -1000000≤fst_ y∧fst_ y≤4000000:=by unfold fst_;omega
theorem yN (y w:Int) (hy:0≤y) (hy2:y≤10001) (hw:0≤w) (hw2:w≤6):zG.f y w=some (w1 y w,()):=by
 have hb:=vH y hy hy2;have hk:=tK1 (fst_ y);rw[zG.f_eq,numJ y hy hy2];simp only[hE2];rw[xI];simp(disch:=omega)only[ss,tmn (show(0:Int)≤wk (fst_ y)-w+7 by omega)];unfold w1;by_cases c:(wk (fst_ y)-w+7)%7≤3
 ·simp(disch:=omega)only[ss]
  congr 2
  unfold wk at *;omega
 ·simp(disch:=omega)only[ss]
  congr 2
  unfold wk at *;omega
theorem kQ1 (y w:Int) (hy:0≤y) (hy2:y≤10001) (hw:0≤w) (hw2:w≤6) (hF:rC.f y=some (fst_ y,())):cH.f y w=some (w1 y w,()):=by
 have hb:=vH y hy hy2;have hk:=tK1 (fst_ y+3);rw[cH.f_eq,hF];simp(disch:=omega)only[ss,kK.f_eq,cF,tmn (show(0:Int)≤wk (fst_ y+3)-w+7 by omega)]
 congr 2
 unfold w1;unfold wk at *;omega
theorem gY1 (n k:Int) (hk:0<k) (hk2:k≤1000000) (h1: -1000000000000≤n) (h2:n≤1000000000000):eF.f n k=some (n/k,()):=by
 obtain⟨e1,e2⟩:=tdm n k hk;have b1:=Int.emod_nonneg n (show k≠0 by omega);have b2:=dI2 n hk;have b3:n/k≤1000000000000:=by have:=Int.ediv_le_ediv hk h2;have:=Int.ediv_le_self k (show(0:Int)≤1000000000000 by omega);omega
 have b4: -1000000000001≤n/k:=by
  have h5:=Int.ediv_le_ediv hk h1;have h6: -1000000000001 ≤ -1000000000000/k:=by have:=Int.emod_add_mul_ediv (-1000000000000) k;have:=dI2 (-1000000000000) hk;refine Int.le_ediv_of_mul_le hk ?_;have:1*1000000000001≤k*1000000000001:=Int.mul_le_mul_of_nonneg_right (by omega) (by omega);omega
  omega
 rw[eF.f_eq,e1,e2];by_cases c:n%k≠0∧n<0
 ·rw[if_pos c,if_pos c];have q:n/k+1-1=n/k:=by omega
  simp(disch:=omega)only[ss,q]
 ·rw[if_neg c,if_neg c];simp(disch:=omega)only[ss]
theorem pL (y:Int) (hy:0≤y) (hy2:y≤10001):rC.f y=some (fst_ y,()):=by rw[rC.f_eq];have hw:w6 (y-1)=y-1:=wr (by omega) (by omega);rw[hw,gY1 (y-1) 4 (by omega) (by omega) (by omega) (by omega),gY1 (y-1) 100 (by omega) (by omega) (by omega) (by omega),gY1 (y-1) 400 (by omega) (by omega) (by omega) (by omega)];simp(disch:=omega)only[ss];rfl
theorem iJ (y:Int) (hy:0≤y):365≤fst_ (y+1)-fst_ y∧fst_ (y+1)-fst_ y≤366:=by
 by_cases c:1≤y
 ·have:=lH y c;have:=eD1 y;omega
 ·have:y=0:=by omega
  subst this;decide
theorem mN (y w:Int) (hy:0≤y):w1 (y+1) w=w1 y w+364∨w1 (y+1) w=w1 y w+371:=by have:=iJ y hy;unfold w1;omega
theorem eK (y w:Int):fst_ y-3≤w1 y w∧w1 y w≤fst_ y+3∧(w1 y w+3-w)%7=0:=by unfold w1;omega
def oY (n w y k:Int):Prop:=w1 y w≤n∧n<w1 (y+1) w∧k=(n-w1 y w)/7+1
theorem lF1 {a b w:Int} (h0:0≤a) (h:a≤b):w1 a w≤w1 b w:=by
 obtain⟨k,hk⟩:=aI2 (show 0≤b-a by omega);have e:b=a+(k:Int):=by omega
 subst e;clear hk h
 induction k with
 | zero=>simp
 | succ k ih=>
  have:=mN (a+(k:Int)) w (by omega);rw[show a+((k+1:Nat):Int)=a+(k:Int)+1 by omega];omega
theorem xL {n w y k y' k':Int} (h0:0≤y) (h1:0≤y') (h:oY n w y k) (g:oY n w y' k'):y=y'∧k=k':=by
 obtain⟨a1,a2,a3⟩:=h;obtain⟨b1,b2,b3⟩:=g;have e:y=y':=by
  rcases yH2 y y' with c | c | c
  ·have:=lF1 (a:=y+1) (b:=y') (w:=w) (by omega) (by omega);omega
  ·exact c
  ·have:=lF1 (a:=y'+1) (b:=y) (w:=w) (by omega) (by omega);omega
 subst e;exact⟨rfl,by omega⟩
theorem qU (w:Int):rJ.f w=some (decide (0≤w∧w≤6),()):=by
 rw[rJ.f_eq];by_cases c:0≤w
 ·by_cases c2:w≤6
  ·simp(disch:=omega)only[ss,ge_iff_le]
  ·simp(disch:=omega)only[ss,ge_iff_le]
 ·simp(disch:=omega)only[ss,ge_iff_le]
theorem oG1 (n w Y:Int) (hY:0≤Y) (hY2:Y≤10001) (hw:0≤w) (hw2:w≤6) (h1:w1 Y w≤n) (h2:n≤4000000) (e:Int):uD.l2 n w Y=some (Y,(n-w1 Y w)/7+1,0,())∧uC.l2 n w Y e=some (Y,(n-w1 Y w)/7+1,e,()):=by have c:=yN Y w hY hY2 hw hw2;have u:=kQ1 Y w hY hY2 hw hw2 (pL _ hY hY2);have f:=vH Y hY hY2;have g:=eK Y w;rw[uD.l2_eq,uC.l2_eq,c,u];simp(disch:=omega)only[ss,tdn (show(0:Int)≤n-w1 Y w by omega)];exact⟨trivial,trivial⟩
theorem zX1 (n w Y:Int) (hY:1≤Y) (hY2:Y≤9999) (hw:0≤w) (hw2:w≤6) (q1:fst_ Y≤n) (q2:n<fst_ (Y+1)):∃y k,oY n w y k∧0≤y∧y≤10000∧1≤k∧k≤53∧uD.l1 n w Y false=some (y,k,0,())∧uC.l1 n w Y 0 false=some (y,k,0,()):=by
 have f2:=vH (Y+1) (by omega) (by omega);have n0:=eK (Y-1) w;have n1:=eK Y w;have n2:=eK (Y+1) w;have n3:=eK (Y+2) w;have s0:=mN (Y-1) w (by omega);have s1:=mN Y w (by omega);have s2:=mN (Y+1) w (by omega);have p0:=iJ (Y-1) (by omega);rw[show Y-1+1=Y by omega]at s0 p0;rw[show Y+1+1=Y+2 by omega]at s2;have c1:=yN Y w (by omega) (by omega) hw hw2;have c2:=yN (Y+1) w (by omega) (by omega) hw hw2;have u1:=kQ1 Y w (by omega) (by omega) hw hw2 (pL _ (by omega) (by omega));have u2:=kQ1 (Y+1) w (by omega) (by omega) hw hw2 (pL _ (by omega) (by omega));have wp:w6 (Y+1)=Y+1:=wr (by omega) (by omega);have wm:w6 (Y-1)=Y-1:=wr (by omega) (by omega);rw[uD.l1_eq,uC.l1_eq,cond_false,cond_false,wp,wm,c1,c2,u1,u2];simp only[hE2];by_cases cl:n<w1 Y w
 ·have hn:¬n≥w1 (Y+1) w:=by omega
  have h:=oG1 n w (Y-1) (by omega) (by omega) hw hw2 (by omega) (by omega) 0;refine⟨Y-1,(n-w1 (Y-1) w)/7+1,⟨by omega,by rw[show Y-1+1=Y by omega];exact cl,rfl⟩,by omega,by omega,by omega,by omega,?_,?_⟩
  ·rw[dp cl,cond_true];exact h.1
  ·rw[dn hn,dp cl,cond_true,cond_false];exact h.2
 ·by_cases cu:n≥w1 (Y+1) w
  ·have h:=oG1 n w (Y+1) (by omega) (by omega) hw hw2 (by omega) (by omega) 0;refine⟨Y+1,(n-w1 (Y+1) w)/7+1,⟨by omega,by rw[show Y+1+1=Y+2 by omega];omega,rfl⟩,by omega,by omega,by omega,by omega,?_,?_⟩
   ·rw[dn cl,dp cu,cond_true,cond_false];exact h.1
   ·rw[dp cu,cond_true];exact h.2
  ·have h:=oG1 n w Y (by omega) (by omega) hw hw2 (by omega) (by omega) 0;refine⟨Y,(n-w1 Y w)/7+1,⟨by omega,by omega,rfl⟩,by omega,by omega,by omega,by omega,?_,?_⟩
   ·rw[dn cl,dn cu,cond_false,cond_false];exact h.1
   ·rw[dn cl,dn cu,cond_false,cond_false];exact h.2
theorem aQ (n w:Int) (h1: -719162≤n) (h2:n≤2932896) (hw:0≤w) (hw2:w≤6):∃y k,oY n w y k∧0≤y∧y≤10000∧1≤k∧k≤53∧uD.f n w=some (y,k,0,())∧uC.f n w=some (y,k,0,()):=by
 obtain⟨Y,m,d,hd,e1,e2⟩:=kJ n h1 h2;obtain⟨q1,q2,_⟩:=mF hd;obtain⟨v1,v2,_⟩:=eC.1 hd.1;obtain⟨y,k,g1,g2,g3,g4,g5,g6,g7⟩:=zX1 n w Y v1 v2 hw hw2 q1 q2;refine⟨y,k,g1,g2,g3,g4,g5,?_,?_⟩
 ·rw[uD.f_eq,e1];simp only[hE2];rw[qU,dp (show 0≤w∧w≤6 from⟨hw,hw2⟩)];exact g6
 ·have a1:¬w<0:=by omega
  have a2:¬w>6:=by omega
  rw[uC.f_eq,e2];simp only[hE2];rw[dn a1,dn a2];exact g7
theorem cS (y:Int):aJ.f y=some (decide (1≤y∧y≤9999),()):=by
 rw[aJ.f_eq];by_cases c:1≤y
 ·by_cases c2:y≤9999
  ·simp(disch:=omega)only[ss,ge_iff_le]
  ·simp(disch:=omega)only[ss,ge_iff_le]
 ·simp(disch:=omega)only[ss,ge_iff_le]
def wks (y w:Int):Int:=(w1 (y+1) w-w1 y w)/7
theorem xP1 (y w:Int) (hy:0≤y):(wks y w=52∨wks y w=53)∧w1 (y+1) w=w1 y w+7*wks y w:=by have:=mN y w hy;unfold wks;omega
theorem yJ1 (y w:Int):yK.f y w=some (if(1≤y∧y≤9999)∧0≤w∧w≤6 then(wks y w,0,())else(0,1,())):=by
 rw[yK.f_eq,cS];by_cases c:1≤y∧y≤9999
 ·rw[dp c];simp only[hE2];rw[qU];by_cases c2:0≤w∧w≤6
  ·rw[dp c2,if_pos ⟨c,c2⟩];have h1:=yN (y+1) w (by omega) (by omega) c2.1 c2.2;have h2:=yN y w (by omega) (by omega) c2.1 c2.2;have f1:=eK (y+1) w;have f2:=eK y w;have f3:=vH y (by omega) (by omega);have f4:=vH (y+1) (by omega) (by omega);have s:=mN y w (by omega);have wp:w6 (y+1)=y+1:=wr (by omega) (by omega);rw[wp,h1,h2];unfold wks;simp(disch:=omega)only[ss,tdn (show(0:Int)≤w1 (y+1) w-w1 y w by omega)]
  ·rw[dn c2,if_neg fun q=>c2 q.2];simp(disch:=omega)only[ss]
 ·rw[dn c,if_neg fun q=>c q.1];simp(disch:=omega)only[ss]
theorem aS (n y m d:Int) (h:iH n y m d) (e:zA.f n=some (y,m,d,0,())):aI.f n=some (y,n-fst_ y+1,0,()):=by obtain⟨q1,q2,q3,q4,q5,q6⟩:=mF h;obtain⟨v1,v2,_⟩:=eC.1 h.1;have f:=vH y (by omega) (by omega);rw[aI.f_eq,e];simp(disch:=omega)only[ss,numJ y (by omega) (by omega)]
abbrev Dy :=Int×Int×Unit
def dyLt (a b:Dy):Prop:=a.1<b.1∨a.1=b.1∧a.2.1<b.2.1
def oC (f:Option (Bool×Unit)) (p:Prop):Prop:=∃b,f=some (b,())∧(b=true↔p)
theorem oC.iff {f:Option (Bool×Unit)} {p q:Prop} (h:oC f p) (e:p↔q):oC f q:=by obtain⟨b,h1,h2⟩:=h;exact⟨b,h1,h2.trans e⟩
theorem oC.eq {f g:Option (Bool×Unit)} {p:Prop} (h:oC f p) (k:oC g p):f=g:=by
 obtain⟨b,h1,h2⟩:=h;obtain⟨c,k1,k2⟩:=k;have:b=c:=by cases b <;> cases c <;> simp at h2 k2 <;> first | rfl | exact absurd k2 h2 | exact absurd h2 k2
 rw[h1,k1,this]
def okI (l:List Int) (lo hi:Int) (z:Bool) (j:Nat):Prop:=lo≤l.getD j 0∧l.getD j 0≤hi∧(l.getD j 0=0→z=true)
def adjI (l:List Int) (j:Nat):Prop:=0<j→l.getD (j-1) 0<l.getD j 0
theorem cR1 (l:List Int) (lo hi:Int) (z:Bool) (hl:l.length≤1000000):∀(k i:Nat),l.length-i=k→i≤l.length →
  oC (oB.l1 l lo hi z l l.length i) ((∀j,i≤j→j<l.length→okI l lo hi z j∧adjI l j)∧l.length≤60):=by
 intro k
 induction k with
 | zero=>
  intro i hk hil;rw[oB.l1_eq];simp(disch:=omega)only[ss];refine⟨_,rfl,?_⟩;rw[decide_eq_true_eq];exact⟨fun h=>⟨fun j h1 h2=>by omega,by omega⟩,fun h=>by omega⟩
 | succ k ih=>
  intro i hk hil;have hlt:i<l.length:=by omega
  have step:okI l lo hi z i∧adjI l i→oC (oB.l2 l lo hi z l l.length i false) ((∀j,i≤j→j<l.length→okI l lo hi z j∧adjI l j)∧l.length≤60):=fun h=>by
   rw[oB.l2_eq];simp(disch:=omega)only[ss];refine(ih (i+1) (by omega) (by omega)).iff ⟨fun q=>⟨fun j h1 h2=>?_,q.2⟩,fun q=>⟨fun j h1 h2=>q.1 j (by omega) h2,q.2⟩⟩;by_cases e:j=i
   ·subst e;exact h
   ·exact q.1 j (by omega) h2
  have stop:¬(okI l lo hi z i∧adjI l i)→oC (oB.l2 l lo hi z l l.length i true) ((∀j,i≤j→j<l.length→okI l lo hi z j∧adjI l j)∧l.length≤60):=fun h=>by rw[oB.l2_eq,cond_true];exact⟨false,rfl,by simp;intro q;exact absurd (q i (rE2 _) hlt) h⟩
  have last:okI l lo hi z i→oC (bif decide ((i:Int)>0)then(bif decide (0≤(i:Int)-1)then(oB.l2 l lo hi z l l.length i (decide (l.getD i 0≤l.getD (i-1) 0)))else none)else(oB.l2 l lo hi z l l.length i false)) ((∀j,i≤j→j<l.length→okI l lo hi z j∧adjI l j)∧l.length≤60):=fun h=>by
   by_cases h0:i=0
   ·simp(disch:=omega)only[ss];exact step ⟨h,fun q=>by omega⟩
   ·simp(disch:=omega)only[ss];by_cases c:l.getD i 0≤l.getD (i-1) 0
    ·rw[dp c];exact stop fun q=>by have:=q.2 (by omega);omega
    ·rw[dn c];exact step ⟨h,fun _=>by omega⟩
  rw[oB.l1_eq];simp(disch:=omega)only[ss];by_cases c1:l.getD i 0<lo
  ·rw[dp c1,cond_true];exact stop fun q=>by have:=q.1.1;omega
  ·by_cases c2:l.getD i 0>hi
   ·rw[dn c1,dp c2,cond_false,cond_true];exact stop fun q=>by have:=q.1.2.1;omega
   ·rw[dn c1,dn c2,cond_false,cond_false];by_cases c3:l.getD i 0=0
    ·rw[dp c3,cond_true]
     cases z with
     | false=>
      exact stop fun q=>by have:=q.1.2.2 c3;cases this
     | true=>exact last ⟨by omega,by omega,fun _=>rfl⟩
    ·rw[dn c3,cond_false];exact last ⟨by omega,by omega,fun q=>absurd q c3⟩
def wi (l:List Int) (lo hi:Int) (z:Bool):Prop:=(∀j,j<l.length→okI l lo hi z j∧adjI l j)∧l.length≤60
theorem tH (l:List Int) (lo hi:Int) (z:Bool) (hl:l.length≤1000000):oC (oB.f l lo hi z) (wi l lo hi z):=by have:=cR1 l lo hi z hl _ 0 rfl (kE2 _);rw[qE2]at this;rw[oB.f_eq];exact this.iff ⟨fun h=>⟨fun j h2=>h.1 j (kE2 _) h2,h.2⟩,fun h=>⟨fun j _ h2=>h.1 j h2,h.2⟩⟩
theorem wL1 (l:List Int) (hl:l.length≤1000000):∀(k i:Nat),l.length-i=k→0<i→oC (cE.l1 l i) (∀j,i≤j→j<l.length→adjI l j):=by
 intro k
 induction k with
 | zero=>
  intro i hk hil;rw[cE.l1_eq];by_cases hlt:i<l.length
  ·omega
  ·simp(disch:=omega)only[ss];exact⟨true,rfl,by simp;intro j h1 h2;omega⟩
 | succ k ih=>
  intro i hk hil;have hlt:i<l.length:=by omega
  have w1:w6 ((i:Int)-1)=((i-1:Nat):Int):=vA1 (by omega) (by omega);rw[cE.l1_eq];simp(disch:=omega)only[ss,w1];by_cases c:l.getD i 0≤l.getD (i-1) 0
  ·rw[dp c,cond_true];exact⟨false,rfl,by simp;exact⟨i,rE2 _,hlt,fun q=>by have:=q hil;omega⟩⟩
  ·rw[dn c,cond_false];refine(ih (i+1) (by omega) (by omega)).iff ⟨fun q j h1 h2=>?_,fun q j h1 h2=>q j (by omega) h2⟩;by_cases e:j=i
   ·subst e;intro _;omega
   ·exact q j (by omega) h2
theorem oU (l:List Int) (hl:l.length≤1000000):oC (cE.f l) (∀j,j<l.length→adjI l j):=by have:=wL1 l hl _ 1 rfl (by omega);rw[cE.f_eq];exact this.iff ⟨fun h j h2 h0=>h j (by omega) h2 h0,fun h j _ h2=>h j h2⟩
theorem oL1 (l:List Int) (lo hi:Int) (z:Bool) (hl:l.length≤1000000):∀(k i:Nat),l.length-i=k→i≤l.length →
  oC (eB.l1 l lo hi z i) ((∀j,i≤j→j<l.length→okI l lo hi z j)∧(∀j,j<l.length→adjI l j)∧l.length≤60):=by
 intro k
 induction k with
 | zero=>
  intro i hk hil;rw[eB.l1_eq];simp(disch:=omega)only[ss];by_cases c:(l.length:Int)≤60
  ·obtain⟨b,h1,h2⟩:=oU l hl;simp(disch:=omega)only[ss,h1];exact⟨b,rfl,h2.trans ⟨fun q=>⟨fun j h3 h4=>by omega,q,by omega⟩,fun q=>q.2.1⟩⟩
  ·simp(disch:=omega)only[ss];exact⟨false,rfl,by simp;intro _ _;omega⟩
 | succ k ih=>
  intro i hk hil;have hlt:i<l.length:=by omega
  have step:okI l lo hi z i→oC (eB.l2 l lo hi z i false) ((∀j,i≤j→j<l.length→okI l lo hi z j)∧(∀j,j<l.length→adjI l j)∧l.length≤60):=fun h=>by
   rw[eB.l2_eq];simp(disch:=omega)only[ss];refine(ih (i+1) (by omega) (by omega)).iff ⟨fun q=>⟨fun j h1 h2=>?_,q.2⟩,fun q=>⟨fun j h1 h2=>q.1 j (by omega) h2,q.2⟩⟩;by_cases e:j=i
   ·subst e;exact h
   ·exact q.1 j (by omega) h2
  have stop:¬okI l lo hi z i→oC (eB.l2 l lo hi z i true) ((∀j,i≤j→j<l.length→okI l lo hi z j)∧(∀j,j<l.length→adjI l j)∧l.length≤60):=fun h=>by rw[eB.l2_eq,cond_true];exact⟨false,rfl,by simp;intro q;exact absurd (q i (rE2 _) hlt) h⟩
  rw[eB.l1_eq];simp(disch:=omega)only[ss];by_cases c1:l.getD i 0<lo
  ·rw[dp c1,cond_true];exact stop fun q=>by have:=q.1;omega
  ·by_cases c2:l.getD i 0>hi
   ·rw[dn c1,dp c2,cond_false,cond_true];exact stop fun q=>by have:=q.2.1;omega
   ·rw[dn c1,dn c2,cond_false,cond_false];by_cases c3:l.getD i 0=0
    ·rw[dp c3,cond_true]
     cases z with
     | false=>exact stop fun q=>by have:=q.2.2 c3;cases this
     | true=>exact step ⟨by omega,by omega,fun _=>rfl⟩
    ·rw[dn c3,cond_false];exact step ⟨by omega,by omega,fun q=>absurd q c3⟩
theorem vG (l:List Int) (lo hi:Int) (z:Bool) (hl:l.length≤1000000):oC (eB.f l lo hi z) (wi l lo hi z):=by have:=oL1 l lo hi z hl _ 0 rfl (kE2 _);rw[qE2]at this;rw[eB.f_eq];exact this.iff ⟨fun h=>⟨fun j h2=>⟨h.1 j (kE2 _) h2,h.2.1 j h2⟩,h.2.2⟩,fun h=>⟨fun j _ h2=>(h.1 j h2).1,fun j h2=>(h.1 j h2).2,h.2⟩⟩
def gD (l:List Dy) (j:Nat):Dy:=l.getD j ((0,0,()):Int×Int×Unit)
def okD (l:List Dy) (j:Nat):Prop:= -53≤(gD l j).1∧(gD l j).1≤53∧0≤(gD l j).2.1∧(gD l j).2.1≤6∧(0<j→dyLt (gD l (j-1)) (gD l j))
def dwi (l:List Dy):Prop:=(∀j,j<l.length→okD l j)∧l.length≤60
theorem rZ1 (l:List Dy) (hl:l.length≤1000000):∀(k i:Nat),l.length-i=k→i≤l.length→oC (cB.l1 l i) ((∀j,i≤j→j<l.length→okD l j)∧l.length≤60):=by
 intro k
 induction k with
 | zero=>
  intro i hk hil;rw[cB.l1_eq];simp(disch:=omega)only[ss];refine⟨_,rfl,?_⟩;rw[decide_eq_true_eq];exact⟨fun h=>⟨fun j h1 h2=>by omega,by omega⟩,fun h=>by omega⟩
 | succ k ih=>
  intro i hk hil;have hlt:i<l.length:=by omega
  have step:okD l i→oC (cB.l2 l i false) ((∀j,i≤j→j<l.length→okD l j)∧l.length≤60):=fun h=>by
   rw[cB.l2_eq];simp(disch:=omega)only[ss];refine(ih (i+1) (by omega) (by omega)).iff ⟨fun q=>⟨fun j h1 h2=>?_,q.2⟩,fun q=>⟨fun j h1 h2=>q.1 j (by omega) h2,q.2⟩⟩;by_cases e:j=i
   ·subst e;exact h
   ·exact q.1 j (by omega) h2
  have stop:¬okD l i→oC (cB.l2 l i true) ((∀j,i≤j→j<l.length→okD l j)∧l.length≤60):=fun h=>by rw[cB.l2_eq,cond_true];exact⟨false,rfl,by simp;intro q;exact absurd (q i (rE2 _) hlt) h⟩
  have hg:l.getD i ((0,0,()):Int×Int×Unit)=gD l i:=rfl;have hg1:l.getD (i-1) ((0,0,()):Int×Int×Unit)=gD l (i-1):=rfl;rw[cB.l1_eq];simp(disch:=omega)only[ss,hg];by_cases c1:(gD l i).1 < -53
  ·rw[dp c1,cond_true];exact stop fun q=>by have:=q.1;omega
  ·by_cases c2:(gD l i).1>53
   ·rw[dn c1,dp c2,cond_false,cond_true];exact stop fun q=>by have:=q.2.1;omega
   ·by_cases c3:(gD l i).2.1<0
    ·rw[dn c1,dn c2,dp c3,cond_false,cond_false,cond_true];exact stop fun q=>by have:=q.2.2.1;omega
    ·by_cases c4:(gD l i).2.1>6
     ·rw[dn c1,dn c2,dn c3,dp c4,cond_false,cond_false,cond_false,cond_true];exact stop fun q=>by have:=q.2.2.2.1;omega
     ·rw[dn c1,dn c2,dn c3,dn c4,cond_false,cond_false,cond_false,cond_false];by_cases h0:i=0
      ·simp(disch:=omega)only[ss];exact step ⟨by omega,by omega,by omega,by omega,fun q=>by omega⟩
      ·have w1:w6 ((i:Int)-1)=((i-1:Nat):Int):=vA1 (by omega) (by omega);simp(disch:=omega)only[ss,w1,hg1];by_cases c5:(gD l i).1<(gD l (i-1)).1
       ·rw[dp c5,cond_true];exact stop fun q=>by have:=q.2.2.2.2 (by omega);unfold dyLt at this;omega
       ·by_cases c6:(gD l i).1=(gD l (i-1)).1
        ·rw[dn c5,dp c6,cond_false,cond_true];by_cases c7:(gD l i).2.1≤(gD l (i-1)).2.1
         ·rw[dp c7];exact stop fun q=>by have:=q.2.2.2.2 (by omega);unfold dyLt at this;omega
         ·rw[dn c7];exact step ⟨by omega,by omega,by omega,by omega,fun _=>by unfold dyLt;omega⟩
        ·rw[dn c5,dn c6,cond_false,cond_false];exact step ⟨by omega,by omega,by omega,by omega,fun _=>by unfold dyLt;omega⟩
theorem iH1 (l:List Dy) (hl:l.length≤1000000):oC (cB.f l) (dwi l):=by have:=rZ1 l hl _ 0 rfl (kE2 _);rw[qE2]at this;rw[cB.f_eq];exact this.iff ⟨fun h=>⟨fun j h2=>h.1 j (kE2 _) h2,h.2⟩,fun h=>⟨fun j _ h2=>h.1 j h2,h.2⟩⟩
theorem dK1 (l:List Dy) (hl:l.length≤1000000):oC (cD.f l) (∃j,j<l.length∧(gD l j).1≠0):=by
 have key:∀(k i:Nat),l.length-i=k→i≤l.length→oC (cD.l1 l i) (∃j,i≤j∧j<l.length∧(gD l j).1≠0):=by
  intro k
  induction k with
  | zero=>
   intro i hk hil;rw[cD.l1_eq];simp(disch:=omega)only[ss];exact⟨false,rfl,by simp;intro j h1 h2;omega⟩
  | succ k ih=>
   intro i hk hil;have hlt:i<l.length:=by omega
   have hg:l.getD i ((0,0,()):Int×Int×Unit)=gD l i:=rfl;rw[cD.l1_eq];simp(disch:=omega)only[ss,hg];by_cases c:(gD l i).1=0
   ·rw[dp c];simp(disch:=omega)only[ss];refine(ih (i+1) (by omega) (by omega)).iff ⟨fun⟨j,h1,h2,h3⟩=>⟨j,by omega,h2,h3⟩,fun⟨j,h1,h2,h3⟩=>⟨j,?_,h2,h3⟩⟩;by_cases e:j=i
    ·subst e;exact absurd c h3
    ·omega
   ·rw[dn c];simp(disch:=omega)only[ss];exact⟨true,rfl,by simp;exact⟨i,rE2 _,hlt,c⟩⟩
 have:=key _ 0 rfl (kE2 _);rw[qE2]at this;rw[cD.f_eq];exact this.iff ⟨fun⟨j,_,h⟩=>⟨j,h⟩,fun⟨j,h⟩=>⟨j,kE2 _,h⟩⟩
abbrev Rl :=Int×Int×Int×Int×Int×Bool×List Int×List Int×List Int×List Int×List Dy×List Int×List Int×List Int×List Int×Unit
def Gate (f:Option (Bool×Unit)) (p:Prop) (K:Option (Bool×Unit)):Prop:=(p→f=K)∧(¬p→f=some (false,()))
theorem Gate.iff {f K:Option (Bool×Unit)} {p q:Prop} (h:Gate f p K) (e:p↔q):Gate f q K:=⟨fun x=>h.1 (e.2 x),fun x=>h.2 fun y=>x (e.1 y)⟩
theorem Gate.eq {f g K:Option (Bool×Unit)} {p:Prop} (h:Gate f p K) (k:Gate g p K):f=g:=by
 by_cases hp:p
 ·rw[h.1 hp,k.1 hp]
 ·rw[h.2 hp,k.2 hp]
theorem fJ {f g K:Option (Bool×Unit)} {p q:Prop} (h:oC f p) (k:Gate g q K):Gate (f.bind fun t=>bif !t.1 then some (false,())else g) (p∧q) K:=by
 obtain⟨b,h1,h2⟩:=h;rw[h1];simp only[hE2]
 cases b with
 | true=>exact⟨fun x=>k.1 x.2,fun x=>k.2 fun y=>x ⟨h2.1 rfl,y⟩⟩
 | false=>exact⟨fun x=>absurd (h2.2 x.1) (by simp),fun _=>rfl⟩
theorem gH {f g:Option (Bool×Unit)} {p q:Prop} (h:oC f p) (k:oC g q):oC (f.bind fun t=>bif t.1 then g else some (false,())) (p∧q):=by
 obtain⟨b,h1,h2⟩:=h;obtain⟨c,k1,k2⟩:=k;rw[h1];simp only[hE2]
 cases b with
 | true=>rw[cond_true];exact⟨c,k1,⟨fun x=>⟨h2.1 rfl,k2.1 x⟩,fun x=>k2.2 x.2⟩⟩
 | false=>exact⟨false,rfl,⟨fun x=>by simp at x,fun x=>absurd (h2.2 x.1) (by simp)⟩⟩
theorem rY {f:Option (Bool×Unit)} {p:Prop} (h:oC f p):oC (f.bind fun t=>some (t.1,())) p:=by obtain⟨b,h1,h2⟩:=h;exact⟨b,by rw[h1];rfl,h2⟩
def numd (f:Int) (we:List Int) (l:List Dy) (j:Nat):Prop:=(gD l j).1≠0→f=2∨f=1∧we.length=0
section
variable (f iv ct un wk : Int) (en : Bool) (mo we yd md : List Int) (dy : List Dy) (ho mi se po : List Int)
theorem tR1 (hl:dy.length≤1000000) (hw:we.length≤1000000):∀(k i:Nat),dy.length-i=k→i≤dy.length→(∀j,j<i→okD dy j) →
  oC (jB.l1 dy dy.length i (f,iv,ct,un,wk,en,mo,we,yd,md,dy,ho,mi,se,po,())) ((∀j,i≤j→j<dy.length→okD dy j∧numd f we dy j)∧dy.length≤60):=by
 intro k
 induction k with
 | zero=>
  intro i hk hil hpre;rw[jB.l1_eq];simp(disch:=omega)only[ss];refine⟨_,rfl,?_⟩;rw[decide_eq_true_eq];exact⟨fun h=>⟨fun j h1 h2=>by omega,by omega⟩,fun h=>by omega⟩
 | succ k ih=>
  intro i hk hil hpre;have hlt:i<dy.length:=by omega
  have hg:dy.getD i ((0,0,()):Int×Int×Unit)=gD dy i:=rfl;have hg1:dy.getD (i-1) ((0,0,()):Int×Int×Unit)=gD dy (i-1):=rfl;have stop:¬(okD dy i∧numd f we dy i)→oC (some (false,())) ((∀j,i≤j→j<dy.length→okD dy j∧numd f we dy j)∧dy.length≤60):=fun h=>
   ⟨false,rfl,by simp;intro q;exact absurd (q i (rE2 _) hlt) h⟩
  have go:okD dy i→numd f we dy i→oC (jB.l3 dy dy.length i false (f,iv,ct,un,wk,en,mo,we,yd,md,dy,ho,mi,se,po,())) ((∀j,i≤j→j<dy.length→okD dy j∧numd f we dy j)∧dy.length≤60):=fun h h'=>by
   rw[jB.l3_eq];simp(disch:=omega)only[ss];refine(ih (i+1) (by omega) (by omega) fun j hj=>?_).iff ⟨fun q=>⟨fun j h1 h2=>?_,q.2⟩,fun q=>⟨fun j h1 h2=>q.1 j (by omega) h2,q.2⟩⟩
   ·by_cases e:j=i
    ·subst e;exact h
    ·exact hpre j (by omega)
   ·by_cases e:j=i
    ·subst e;exact⟨h,h'⟩
    ·exact q.1 j (by omega) h2
  have l3t:jB.l3 dy dy.length i true (f,iv,ct,un,wk,en,mo,we,yd,md,dy,ho,mi,se,po,())=some (false,()):=by rw[jB.l3_eq,cond_true]
  have bad:∀a b,¬okD dy i→oC (jB.l2 dy dy.length i true (f,iv,ct,un,wk,en,mo,we,yd,md,dy,ho,mi,se,po,()) (a,b,())) ((∀j,i≤j→j<dy.length→okD dy j∧numd f we dy j)∧dy.length≤60):=fun a b h=>by rw[jB.l2_eq,cond_true];exact stop fun q=>h q.1
  have good:okD dy i→oC (jB.l2 dy dy.length i false (f,iv,ct,un,wk,en,mo,we,yd,md,dy,ho,mi,se,po,()) (gD dy i)) ((∀j,i≤j→j<dy.length→okD dy j∧numd f we dy j)∧dy.length≤60):=fun h=>by
   rw[jB.l2_eq,cond_false];by_cases c1:(gD dy i).1=0
   ·simp(disch:=omega)only[ss];exact go h fun q=>absurd c1 q
   ·by_cases c2:f=2
    ·simp(disch:=omega)only[ss];exact go h fun _=>.inl c2
    ·by_cases c3:f=1
     ·by_cases c4:(we.length:Int)>0
      ·simp(disch:=omega)only[ss,l3t];exact stop fun q=>by rcases q.2 c1 with q | q <;> omega
      ·simp(disch:=omega)only[ss];exact go h fun _=>.inr ⟨c3,by omega⟩
     ·simp(disch:=omega)only[ss,l3t];exact stop fun q=>by rcases q.2 c1 with q | q <;> omega
  rw[jB.l1_eq];simp(disch:=omega)only[ss,hg];by_cases c1:(gD dy i).1 < -53
  ·rw[dp c1,cond_true];exact bad _ _ fun q=>by have:=q.1;omega
  ·by_cases c2:(gD dy i).1>53
   ·rw[dn c1,dp c2,cond_false,cond_true];exact bad _ _ fun q=>by have:=q.2.1;omega
   ·by_cases c3:(gD dy i).2.1<0
    ·rw[dn c1,dn c2,dp c3,cond_false,cond_false,cond_true];exact bad _ _ fun q=>by have:=q.2.2.1;omega
    ·by_cases c4:(gD dy i).2.1>6
     ·rw[dn c1,dn c2,dn c3,dp c4,cond_false,cond_false,cond_false,cond_true];exact bad _ _ fun q=>by have:=q.2.2.2.1;omega
     ·rw[dn c1,dn c2,dn c3,dn c4,cond_false,cond_false,cond_false,cond_false];by_cases h0:i=0
      ·simp(disch:=omega)only[ss];exact good ⟨by omega,by omega,by omega,by omega,fun q=>by omega⟩
      ·have hp:=hpre (i-1) (by omega);have b1:=hp.1;have b2:=hp.2.1;have b3:=hp.2.2.1;have b4:=hp.2.2.2.1;simp(disch:=omega)only[ss,hg1,oO.f_eq];by_cases c6:(gD dy (i-1)).1=(gD dy i).1
       ·simp(disch:=omega)only[ss];by_cases c7:(gD dy (i-1)).2.1-(gD dy i).2.1≥0
        ·rw[dp c7];exact bad _ _ fun q=>by have:=q.2.2.2.2 (by omega);unfold dyLt at this;omega
        ·rw[dn c7];exact good ⟨by omega,by omega,by omega,by omega,fun _=>by unfold dyLt;omega⟩
       ·simp(disch:=omega)only[ss];by_cases c7:(gD dy (i-1)).1-(gD dy i).1≥0
        ·rw[dp c7];exact bad _ _ fun q=>by have:=q.2.2.2.2 (by omega);unfold dyLt at this;omega
        ·rw[dn c7];exact good ⟨by omega,by omega,by omega,by omega,fun _=>by unfold dyLt;omega⟩
def xD1 :Prop:=wi mo 1 12 false∧wi we (-53) 53 false∧wi yd (-366) 366 false∧wi md (-31) 31 false∧wi ho 0 23 true∧wi mi 0 59 true∧wi se 0 59 true∧wi po (-366) 366 false∧(dwi dy ∧ ∀j,j<dy.length→numd f we dy j)
def eN :Prop:=mo.length≤100000∧we.length≤100000∧yd.length≤100000∧md.length≤100000∧dy.length≤100000∧ho.length≤100000∧mi.length≤100000∧se.length≤100000∧po.length≤100000
theorem fY (h:eN mo we yd md dy ho mi se po):oC (dI.f (f,iv,ct,un,wk,en,mo,we,yd,md,dy,ho,mi,se,po,())) (xD1 f mo we yd md dy ho mi se po):=by
 obtain⟨h1,h2,h3,h4,h5,h6,h7,h8,h9⟩:=h;have hD:=tR1 f iv ct un wk en mo we yd md dy ho mi se po (by omega) (by omega) _ 0 rfl (kE2 _) fun j hj=>by omega
 rw[qE2]at hD;have hD2:oC (jB.f (f,iv,ct,un,wk,en,mo,we,yd,md,dy,ho,mi,se,po,())) (dwi dy ∧ ∀j,j<dy.length→numd f we dy j):=by rw[jB.f_eq];exact hD.iff ⟨fun q=>⟨⟨fun j hj=>(q.1 j (kE2 _) hj).1,q.2⟩,fun j hj=>(q.1 j (kE2 _) hj).2⟩,fun q=>⟨fun j _ hj=>⟨q.1.1 j hj,q.2 j hj⟩,q.1.2⟩⟩
 rw[dI.f_eq];exact gH (tH mo 1 12 false (by omega)) (gH (tH we (-53) 53 false (by omega)) (gH (tH yd (-366) 366 false (by omega)) (gH (tH md (-31) 31 false (by omega)) (gH (tH ho 0 23 true (by omega)) (gH (tH mi 0 59 true (by omega)) (gH (tH se 0 59 true (by omega)) (gH (tH po (-366) 366 false (by omega)) (rY hD2))))))))
def numP :Prop:=(1≤f∧f≤7∧1≤iv∧iv≤1000∧0≤ct∧ct≤4096∧0≤wk∧wk≤6)∧(en=true→(-62135596800≤un∧un≤253402300799)∧ct=0)∧(en=false→un=0)
theorem aP1 :oC (aC.f (f,iv,ct,un,wk,en,mo,we,yd,md,dy,ho,mi,se,po,())) (numP f iv ct un wk en):=by
 have l1t:aC.l1 true (f,iv,ct,un,wk,en,mo,we,yd,md,dy,ho,mi,se,po,())=some (false,()):=by rw[aC.l1_eq,cond_true]
 have no:¬(1≤f∧f≤7∧1≤iv∧iv≤1000∧0≤ct∧ct≤4096∧0≤wk∧wk≤6)→oC (some (false,())) (numP f iv ct un wk en):=fun h=>⟨false,rfl,⟨fun q=>by simp at q,fun q=>absurd q.1 h⟩⟩
 rw[aC.f_eq];dsimp only;by_cases c:1≤f∧f≤7∧1≤iv∧iv≤1000∧0≤ct∧ct≤4096∧0≤wk∧wk≤6
 ·obtain⟨c1,c2,c3,c4,c5,c6,c7,c8⟩:=c;simp(disch:=omega)only[ss,aC.l1_eq,eH.f_eq]
  cases en with
  | true=>
   simp(disch:=omega)only[ss];by_cases d1:un ≥ -62135596800
   ·by_cases d2:un≤253402300799
    ·simp(disch:=omega)only[ss];refine⟨_,rfl,?_⟩;rw[decide_eq_true_eq];exact⟨fun q=>⟨⟨c1,c2,c3,c4,c5,c6,c7,c8⟩,fun _=>⟨⟨by omega,d2⟩,q⟩,fun q=>by cases q⟩,fun q=>(q.2.1 rfl).2⟩
    ·simp(disch:=omega)only[ss];exact⟨false,rfl,⟨fun q=>by simp at q,fun q=>by have:=(q.2.1 rfl).1;omega⟩⟩
   ·simp(disch:=omega)only[ss];exact⟨false,rfl,⟨fun q=>by simp at q,fun q=>by have:=(q.2.1 rfl).1;omega⟩⟩
  | false=>
   simp(disch:=omega)only[ss];refine⟨_,rfl,?_⟩;rw[decide_eq_true_eq];exact⟨fun q=>⟨⟨c1,c2,c3,c4,c5,c6,c7,c8⟩,(fun q=>by cases q),fun _=>q⟩,fun q=>q.2.2 rfl⟩
 ·have hb:∀{p:Prop} [Decidable p] {x:Option (Bool×Unit)},(¬p→oC x (numP f iv ct un wk en))→(p→oC (some (false,())) (numP f iv ct un wk en))→oC (bif decide p then(some (false,()))else x) (numP f iv ct un wk en):=fun {p} _ {x} h1 h2=>by
   by_cases hp:p
   ·rw[dp hp,cond_true];exact h2 hp
   ·rw[dn hp,cond_false];exact h1 hp
  have hn:=no c;rw[l1t];refine hb (fun d1=>hb (fun d2=>hb (fun d3=>hb (fun d4=>hb (fun d5=>hb (fun d6=>hb (fun d7=>?_) fun _=>hn) fun _=>hn) fun _=>hn) fun _=>hn) fun _=>hn) fun _=>hn) fun _=>hn
  have:wk>6:=by omega
  rw[dp this,l1t];exact hn
def mayP :Prop:=numP f iv ct un wk en∧xD1 f mo we yd md dy ho mi se po∧(0<we.length→f=1)∧(0<yd.length → ¬(2≤f∧f≤4))∧(0<md.length→f≠3)
theorem oZ (h:eN mo we yd md dy ho mi se po):Gate (tA.f (f,iv,ct,un,wk,en,mo,we,yd,md,dy,ho,mi,se,po,())) (mayP f iv ct un wk en mo we yd md dy ho mi se po) (tA.l5 (f,iv,ct,un,wk,en,mo,we,yd,md,dy,ho,mi,se,po,())):=by
 have l1t:tA.l1 true (f,iv,ct,un,wk,en,mo,we,yd,md,dy,ho,mi,se,po,())=some (false,()):=by rw[tA.l1_eq,cond_true]
 have l2t:tA.l2 true (f,iv,ct,un,wk,en,mo,we,yd,md,dy,ho,mi,se,po,())=some (false,()):=by rw[tA.l2_eq,cond_true]
 have l3t:tA.l3 true (f,iv,ct,un,wk,en,mo,we,yd,md,dy,ho,mi,se,po,())=some (false,()):=by rw[tA.l3_eq,cond_true]
 have l4t:tA.l4 true (f,iv,ct,un,wk,en,mo,we,yd,md,dy,ho,mi,se,po,())=some (false,()):=by rw[tA.l4_eq,cond_true]
 have l4f:tA.l4 false (f,iv,ct,un,wk,en,mo,we,yd,md,dy,ho,mi,se,po,())=tA.l5 (f,iv,ct,un,wk,en,mo,we,yd,md,dy,ho,mi,se,po,()):=by rw[tA.l4_eq,cond_false]
 have g3:Gate (tA.l3 false (f,iv,ct,un,wk,en,mo,we,yd,md,dy,ho,mi,se,po,())) (0<md.length→f≠3) (tA.l5 (f,iv,ct,un,wk,en,mo,we,yd,md,dy,ho,mi,se,po,())):=by
  rw[tA.l3_eq,cond_false];by_cases c:(md.length:Int)>0
  ·rw[dp c,cond_true];by_cases c2:f=3
   ·rw[dp c2,l4t];exact⟨fun q=>absurd c2 (q (by omega)),fun _=>rfl⟩
   ·rw[dn c2,l4f];exact⟨fun _=>rfl,fun q=>absurd (fun _=>c2) q⟩
  ·rw[dn c,cond_false,l4f];exact⟨fun _=>rfl,fun q=>absurd (fun x=>by omega) q⟩
 have g2:Gate (tA.l2 false (f,iv,ct,un,wk,en,mo,we,yd,md,dy,ho,mi,se,po,())) ((0<yd.length → ¬(2≤f∧f≤4))∧(0<md.length→f≠3)) (tA.l5 (f,iv,ct,un,wk,en,mo,we,yd,md,dy,ho,mi,se,po,())):=by
  rw[tA.l2_eq,cond_false];by_cases c:(yd.length:Int)>0
  ·rw[dp c,cond_true];by_cases c2:f≥2
   ·rw[dp c2,cond_true];by_cases c3:f≤4
    ·rw[dp c3,l3t];exact⟨fun q=>absurd ⟨by omega,c3⟩ (q.1 (by omega)),fun _=>rfl⟩
    ·rw[dn c3];exact g3.iff ⟨fun q=>⟨fun _=>by omega,q⟩,fun q=>q.2⟩
   ·rw[dn c2,cond_false];exact g3.iff ⟨fun q=>⟨fun _=>by omega,q⟩,fun q=>q.2⟩
  ·rw[dn c,cond_false];exact g3.iff ⟨fun q=>⟨fun x=>by omega,q⟩,fun q=>q.2⟩
 have g1:Gate (tA.l1 false (f,iv,ct,un,wk,en,mo,we,yd,md,dy,ho,mi,se,po,())) ((0<we.length→f=1)∧(0<yd.length → ¬(2≤f∧f≤4))∧(0<md.length→f≠3)) (tA.l5 (f,iv,ct,un,wk,en,mo,we,yd,md,dy,ho,mi,se,po,())):=by
  rw[tA.l1_eq,cond_false];by_cases c:(we.length:Int)>0
  ·rw[dp c,cond_true];by_cases c2:f=1
   ·rw[dp c2,lE2];exact g2.iff ⟨fun q=>⟨fun _=>c2,q⟩,fun q=>q.2⟩
   ·rw[dn c2,eF2,l2t];exact⟨fun q=>absurd (q.1 (by omega)) c2,fun _=>rfl⟩
  ·rw[dn c,cond_false];exact g2.iff ⟨fun q=>⟨fun x=>by omega,q⟩,fun q=>q.2⟩
 have hL:Gate ((dI.f (f,iv,ct,un,wk,en,mo,we,yd,md,dy,ho,mi,se,po,())).bind fun t2=>tA.l1 (!t2.1) (f,iv,ct,un,wk,en,mo,we,yd,md,dy,ho,mi,se,po,())) (xD1 f mo we yd md dy ho mi se po∧(0<we.length→f=1)∧(0<yd.length → ¬(2≤f∧f≤4))∧(0<md.length→f≠3)) (tA.l5 (f,iv,ct,un,wk,en,mo,we,yd,md,dy,ho,mi,se,po,())):=by
  have:=fJ (fY f iv ct un wk en mo we yd md dy ho mi se po h) g1;obtain⟨b,h1,_⟩:=fY f iv ct un wk en mo we yd md dy ho mi se po h;rw[h1]at this ⊢;simp only[hE2]at this ⊢
  cases b with
  | true=>exact this
  | false=>rw[eF2,l1t];exact this
 rw[tA.f_eq];have:=fJ (aP1 f iv ct un wk en mo we yd md dy ho mi se po) hL;simp only[l1t];exact this
end
theorem wR {K:Option (Bool×Unit)} {p:Prop} (h:¬p):Gate (some (false,())) p K:=⟨fun q=>absurd q h,fun _=>rfl⟩
theorem cB2 (l:List Int) (hi:Int) (z:Bool):wi l 1 hi z↔wi l 1 hi false:=by
 unfold wi;constructor
 ·exact fun h=>⟨fun j hj=>⟨⟨(h.1 j hj).1.1,(h.1 j hj).1.2.1,fun q=>by have:=(h.1 j hj).1.1;omega⟩,(h.1 j hj).2⟩,h.2⟩
 ·exact fun h=>⟨fun j hj=>⟨⟨(h.1 j hj).1.1,(h.1 j hj).1.2.1,fun q=>by have:=(h.1 j hj).1.1;omega⟩,(h.1 j hj).2⟩,h.2⟩
section
variable (f iv ct un wk : Int) (en : Bool) (mo we yd md : List Int) (dy : List Dy) (ho mi se po : List Int)
theorem dD2 (h:eN mo we yd md dy ho mi se po):Gate (bA.f (f,iv,ct,un,wk,en,mo,we,yd,md,dy,ho,mi,se,po,())) (mayP f iv ct un wk en mo we yd md dy ho mi se po) (bA.l8 (f,iv,ct,un,wk,en,mo,we,yd,md,dy,ho,mi,se,po,())):=by
 obtain⟨h1,h2,h3,h4,h5,h6,h7,h8,h9⟩:=h;have l1t:bA.l1 true (f,iv,ct,un,wk,en,mo,we,yd,md,dy,ho,mi,se,po,())=some (false,()):=by rw[bA.l1_eq,cond_true]
 have l2t:bA.l2 true (f,iv,ct,un,wk,en,mo,we,yd,md,dy,ho,mi,se,po,())=some (false,()):=by rw[bA.l2_eq,cond_true]
 have l2f:bA.l2 false (f,iv,ct,un,wk,en,mo,we,yd,md,dy,ho,mi,se,po,())=bA.l3 (f,iv,ct,un,wk,en,mo,we,yd,md,dy,ho,mi,se,po,()):=by rw[bA.l2_eq,cond_false]
 have l4t:bA.l4 true (f,iv,ct,un,wk,en,mo,we,yd,md,dy,ho,mi,se,po,())=some (false,()):=by rw[bA.l4_eq,cond_true]
 have l5t:bA.l5 true (f,iv,ct,un,wk,en,mo,we,yd,md,dy,ho,mi,se,po,())=some (false,()):=by rw[bA.l5_eq,cond_true]
 have l5f:bA.l5 false (f,iv,ct,un,wk,en,mo,we,yd,md,dy,ho,mi,se,po,())=bA.l6 (f,iv,ct,un,wk,en,mo,we,yd,md,dy,ho,mi,se,po,()):=by rw[bA.l5_eq,cond_false]
 have l7t:bA.l7 true (f,iv,ct,un,wk,en,mo,we,yd,md,dy,ho,mi,se,po,())=some (false,()):=by rw[bA.l7_eq,cond_true]
 have l7f:bA.l7 false (f,iv,ct,un,wk,en,mo,we,yd,md,dy,ho,mi,se,po,())=bA.l8 (f,iv,ct,un,wk,en,mo,we,yd,md,dy,ho,mi,se,po,()):=by rw[bA.l7_eq,cond_false]
 have g6:Gate (bA.l6 (f,iv,ct,un,wk,en,mo,we,yd,md,dy,ho,mi,se,po,())) (∀j,j<dy.length→numd f we dy j) (bA.l8 (f,iv,ct,un,wk,en,mo,we,yd,md,dy,ho,mi,se,po,())):=by
  rw[bA.l6_eq];obtain⟨b,e1,e2⟩:=dK1 dy (by omega);rw[e1];simp only[hE2]
  cases b with
  | false=>
   rw[cond_false,l7f];have:∀j,j<dy.length→numd f we dy j:=fun j hj hn=>absurd (e2.2 ⟨j,hj,hn⟩) (by simp)
   exact⟨fun _=>rfl,fun q=>absurd this q⟩
  | true=>
   obtain⟨j,hj,hn⟩:=e2.1 rfl;rw[cond_true];by_cases c2:f=2
   ·simp(disch:=omega)only[ss,l7f];exact⟨fun _=>rfl,fun q=>absurd (fun _ _ _=>.inl c2) q⟩
   ·by_cases c3:f=1
    ·by_cases c4:(we.length:Int)>0
     ·simp(disch:=omega)only[ss,l7t];exact wR fun q=>by rcases q j hj hn with q | q <;> omega
     ·simp(disch:=omega)only[ss,l7f];exact⟨fun _=>rfl,fun q=>absurd (fun _ _ _=>.inr ⟨c3,by omega⟩) q⟩
    ·simp(disch:=omega)only[ss,l7t];exact wR fun q=>by rcases q j hj hn with q | q <;> omega
 have g4:Gate (bA.l4 false (f,iv,ct,un,wk,en,mo,we,yd,md,dy,ho,mi,se,po,())) (((0<we.length→f=1)∧(0<yd.length → ¬(2≤f∧f≤4))∧(0<md.length→f≠3)) ∧ ∀j,j<dy.length→numd f we dy j) (bA.l8 (f,iv,ct,un,wk,en,mo,we,yd,md,dy,ho,mi,se,po,())):=by
  have hm:((0<we.length→f=1)∧(0<yd.length → ¬(2≤f∧f≤4)))→Gate (bif decide ((md.length:Int)>0)then(bA.l5 (decide (f=3)) (f,iv,ct,un,wk,en,mo,we,yd,md,dy,ho,mi,se,po,()))else(bA.l5 false (f,iv,ct,un,wk,en,mo,we,yd,md,dy,ho,mi,se,po,()))) (((0<we.length→f=1)∧(0<yd.length → ¬(2≤f∧f≤4))∧(0<md.length→f≠3)) ∧ ∀j,j<dy.length→numd f we dy j) (bA.l8 (f,iv,ct,un,wk,en,mo,we,yd,md,dy,ho,mi,se,po,())):=fun hh=>by
   by_cases c:(md.length:Int)>0
   ·rw[dp c,cond_true];by_cases c2:f=3
    ·rw[dp c2,l5t];exact wR fun q=>q.1.2.2 (by omega) c2
    ·rw[dn c2,l5f];exact g6.iff ⟨fun q=>⟨⟨hh.1,hh.2,fun _=>c2⟩,q⟩,fun q=>q.2⟩
   ·rw[dn c,cond_false,l5f];exact g6.iff ⟨fun q=>⟨⟨hh.1,hh.2,fun x=>by omega⟩,q⟩,fun q=>q.2⟩
  have hy:(0<we.length→f=1)→Gate (bif decide ((yd.length:Int)>0)then(bif decide (f≥2)then(bif decide (f≤4)then(bA.l5 true (f,iv,ct,un,wk,en,mo,we,yd,md,dy,ho,mi,se,po,()))else(bif decide ((md.length:Int)>0)then(bA.l5 (decide (f=3)) (f,iv,ct,un,wk,en,mo,we,yd,md,dy,ho,mi,se,po,()))else(bA.l5 false (f,iv,ct,un,wk,en,mo,we,yd,md,dy,ho,mi,se,po,()))))else(bif decide ((md.length:Int)>0)then(bA.l5 (decide (f=3)) (f,iv,ct,un,wk,en,mo,we,yd,md,dy,ho,mi,se,po,()))else(bA.l5 false (f,iv,ct,un,wk,en,mo,we,yd,md,dy,ho,mi,se,po,()))))else(bif decide ((md.length:Int)>0)then(bA.l5 (decide (f=3)) (f,iv,ct,un,wk,en,mo,we,yd,md,dy,ho,mi,se,po,()))else(bA.l5 false (f,iv,ct,un,wk,en,mo,we,yd,md,dy,ho,mi,se,po,())))) (((0<we.length→f=1)∧(0<yd.length → ¬(2≤f∧f≤4))∧(0<md.length→f≠3)) ∧ ∀j,j<dy.length→numd f we dy j) (bA.l8 (f,iv,ct,un,wk,en,mo,we,yd,md,dy,ho,mi,se,po,())):=fun hh=>by
   by_cases c:(yd.length:Int)>0
   ·rw[dp c,cond_true];by_cases c2:f≥2
    ·rw[dp c2,cond_true];by_cases c3:f≤4
     ·rw[dp c3,cond_true,l5t];exact wR fun q=>q.1.2.1 (by omega) ⟨by omega,c3⟩
     ·rw[dn c3,cond_false];exact hm ⟨hh,fun _=>by omega⟩
    ·rw[dn c2,cond_false];exact hm ⟨hh,fun _=>by omega⟩
   ·rw[dn c,cond_false];exact hm ⟨hh,fun x=>by omega⟩
  rw[bA.l4_eq,cond_false];by_cases c:(we.length:Int)>0
  ·rw[dp c,cond_true];by_cases c2:f=1
   ·rw[dp c2,lE2,cond_false];exact hy fun _=>c2
   ·rw[dn c2,eF2,cond_true,l5t];exact wR fun q=>c2 (q.1.1 (by omega))
  ·rw[dn c,cond_false];exact hy fun x=>by omega
 have g3:Gate (bA.l3 (f,iv,ct,un,wk,en,mo,we,yd,md,dy,ho,mi,se,po,())) (wi mo 1 12 true∧wi we (-53) 53 false∧wi yd (-366) 366 false∧wi md (-31) 31 false∧wi po (-366) 366 false∧wi ho 0 23 true∧wi mi 0 59 true∧wi se 0 59 true∧dwi dy∧(((0<we.length→f=1)∧(0<yd.length → ¬(2≤f∧f≤4))∧(0<md.length→f≠3)) ∧ ∀j,j<dy.length→numd f we dy j)) (bA.l8 (f,iv,ct,un,wk,en,mo,we,yd,md,dy,ho,mi,se,po,())):=by
  have hlast:∀{q:Prop},Gate (bA.l4 false (f,iv,ct,un,wk,en,mo,we,yd,md,dy,ho,mi,se,po,())) q (bA.l8 (f,iv,ct,un,wk,en,mo,we,yd,md,dy,ho,mi,se,po,()))→Gate ((cB.f dy).bind fun t10=>bA.l4 (!t10.1) (f,iv,ct,un,wk,en,mo,we,yd,md,dy,ho,mi,se,po,())) (dwi dy∧q) (bA.l8 (f,iv,ct,un,wk,en,mo,we,yd,md,dy,ho,mi,se,po,())):=fun {q} hq=>by
   have:=fJ (iH1 dy (by omega)) hq;obtain⟨b,e1,_⟩:=iH1 dy (by omega);rw[e1]at this ⊢;simp only[hE2]at this ⊢
   cases b with
   | true=>exact this
   | false=>rw[eF2,l4t];exact this
  rw[bA.l3_eq];simp only[l4t];exact fJ (vG mo 1 12 true (by omega)) (fJ (vG we (-53) 53 false (by omega)) (fJ (vG yd (-366) 366 false (by omega)) (fJ (vG md (-31) 31 false (by omega)) (fJ (vG po (-366) 366 false (by omega)) (fJ (vG ho 0 23 true (by omega)) (fJ (vG mi 0 59 true (by omega)) (fJ (vG se 0 59 true (by omega)) (hlast g4))))))))
 have g3':=g3.iff (q:=xD1 f mo we yd md dy ho mi se po∧(0<we.length→f=1)∧(0<yd.length → ¬(2≤f∧f≤4))∧(0<md.length→f≠3)) (by
  rw[cB2 mo 12 true];unfold xD1;constructor
  ·rintro⟨a1,a2,a3,a4,a5,a6,a7,a8,a9,a10,a11⟩;exact⟨⟨a1,a2,a3,a4,a6,a7,a8,a5,a9,a11⟩,a10⟩
  ·rintro⟨⟨a1,a2,a3,a4,a6,a7,a8,a5,a9,a11⟩,a10⟩
   exact⟨a1,a2,a3,a4,a5,a6,a7,a8,a9,a10,a11⟩)
 have no:¬numP f iv ct un wk en→Gate (some (false,())) (mayP f iv ct un wk en mo we yd md dy ho mi se po) (bA.l8 (f,iv,ct,un,wk,en,mo,we,yd,md,dy,ho,mi,se,po,())):=fun hn=>wR fun q=>hn q.1
 have yes:numP f iv ct un wk en→Gate (bA.l3 (f,iv,ct,un,wk,en,mo,we,yd,md,dy,ho,mi,se,po,())) (mayP f iv ct un wk en mo we yd md dy ho mi se po) (bA.l8 (f,iv,ct,un,wk,en,mo,we,yd,md,dy,ho,mi,se,po,())):=fun hn=>g3'.iff ⟨fun q=>⟨hn,q⟩,fun q=>q.2⟩
 rw[bA.f_eq];dsimp only;by_cases c:1≤f∧f≤7∧1≤iv∧iv≤1000∧0≤ct∧ct≤4096∧0≤wk∧wk≤6
 ·have c':=c;obtain⟨c1,c2,c3,c4,c5,c6,c7,c8⟩:=c;simp(disch:=omega)only[ss,bA.l1_eq,vD.f_eq]
  cases en with
  | true=>
   simp(disch:=omega)only[ss];by_cases d0:ct>0
   ·simp(disch:=omega)only[ss,l2t];exact no fun q=>by have:=(q.2.1 rfl).2;omega
   ·by_cases d1:un ≥ -62135596800
    ·by_cases d2:un<253402300800
     ·simp(disch:=omega)only[ss,l2f];exact yes ⟨c',fun _=>⟨⟨by omega,by omega⟩,by omega⟩,fun q=>by cases q⟩
     ·simp(disch:=omega)only[ss,l2t];exact no fun q=>by have:=(q.2.1 rfl).1;omega
    ·simp(disch:=omega)only[ss,l2t];exact no fun q=>by have:=(q.2.1 rfl).1;omega
  | false=>
   by_cases d0:un=0
   ·simp(disch:=omega)only[ss,l2f];exact yes ⟨c',(fun q=>by cases q),fun _=>d0⟩
   ·simp(disch:=omega)only[ss,l2t];exact no fun q=>d0 (q.2.2 rfl)
 ·have hn:=no fun q=>c q.1
  have hb:∀{p:Prop} [Decidable p] {x:Option (Bool×Unit)},(¬p→Gate x (mayP f iv ct un wk en mo we yd md dy ho mi se po) (bA.l8 (f,iv,ct,un,wk,en,mo,we,yd,md,dy,ho,mi,se,po,())))→Gate (bif decide p then(some (false,()))else x) (mayP f iv ct un wk en mo we yd md dy ho mi se po) (bA.l8 (f,iv,ct,un,wk,en,mo,we,yd,md,dy,ho,mi,se,po,())):=fun {p} _ {x} h1=>by
   by_cases hp:p
   ·rw[dp hp,cond_true];exact hn
   ·rw[dn hp,cond_false];exact h1 hp
  rw[l1t];refine hb fun d1=>hb fun d2=>hb fun d3=>hb fun d4=>hb fun d5=>hb fun d6=>hb fun d7=>?_
  have:wk>6:=by omega
  rw[dp this,l1t];exact hn
theorem pQ1 :tA.l5 (f,iv,ct,un,wk,en,mo,we,yd,md,dy,ho,mi,se,po,())=bA.l8 (f,iv,ct,un,wk,en,mo,we,yd,md,dy,ho,mi,se,po,()):=by
 have e7:tA.l7 (f,iv,ct,un,wk,en,mo,we,yd,md,dy,ho,mi,se,po,())=bA.l10 (f,iv,ct,un,wk,en,mo,we,yd,md,dy,ho,mi,se,po,()):=by rw[tA.l7_eq,bA.l10_eq]
 have e6:∀b,tA.l6 b (f,iv,ct,un,wk,en,mo,we,yd,md,dy,ho,mi,se,po,())=bA.l9 b (f,iv,ct,un,wk,en,mo,we,yd,md,dy,ho,mi,se,po,()):=fun b=>by rw[tA.l6_eq,bA.l9_eq,e7]
 rw[tA.l5_eq,bA.l8_eq,e6,e6]
end
theorem gO (r:Rl) (h:eN r.2.2.2.2.2.2.1 r.2.2.2.2.2.2.2.1 r.2.2.2.2.2.2.2.2.1 r.2.2.2.2.2.2.2.2.2.1 r.2.2.2.2.2.2.2.2.2.2.1 r.2.2.2.2.2.2.2.2.2.2.2.1 r.2.2.2.2.2.2.2.2.2.2.2.2.1 r.2.2.2.2.2.2.2.2.2.2.2.2.2.1 r.2.2.2.2.2.2.2.2.2.2.2.2.2.2.1):tA.f r=bA.f r:=by obtain⟨f,iv,ct,un,wk,en,mo,we,yd,md,dy,ho,mi,se,po,⟨⟩⟩:=r;have g1:=oZ f iv ct un wk en mo we yd md dy ho mi se po h;rw[pQ1]at g1;exact g1.eq (dD2 f iv ct un wk en mo we yd md dy ho mi se po h)
theorem pO (r:Rl) (h:eN r.2.2.2.2.2.2.1 r.2.2.2.2.2.2.2.1 r.2.2.2.2.2.2.2.2.1 r.2.2.2.2.2.2.2.2.2.1 r.2.2.2.2.2.2.2.2.2.2.1 r.2.2.2.2.2.2.2.2.2.2.2.1 r.2.2.2.2.2.2.2.2.2.2.2.2.1 r.2.2.2.2.2.2.2.2.2.2.2.2.2.1 r.2.2.2.2.2.2.2.2.2.2.2.2.2.2.1):∃b,tA.f r=some (b,()):=by
 obtain⟨f,iv,ct,un,wk,en,mo,we,yd,md,dy,ho,mi,se,po,⟨⟩⟩:=r;have g1:=oZ f iv ct un wk en mo we yd md dy ho mi se po h;by_cases hp:mayP f iv ct un wk en mo we yd md dy ho mi se po
 ·rw[g1.1 hp,tA.l5_eq];have e7:∃b,tA.l7 (f,iv,ct,un,wk,en,mo,we,yd,md,dy,ho,mi,se,po,())=some (b,()):=by
   rw[tA.l7_eq];cases decide (f>4)with
   | true=>exact⟨_,rfl⟩
   | false=>exact⟨_,rfl⟩
  have e6:∀c,∃b,tA.l6 c (f,iv,ct,un,wk,en,mo,we,yd,md,dy,ho,mi,se,po,())=some (b,()):=fun c=>by
   rw[tA.l6_eq]
   cases c with
   | true=>exact⟨_,rfl⟩
   | false=>exact e7
  cases decide ((po.length:Int)>0)with
  | true=>exact e6 _
  | false=>exact e6 _
 ·exact⟨false,g1.2 hp⟩
theorem nS1 (l:List Int) (x:Int) (hl:l.length≤1000000):∀(k i:Nat),l.length-i=k→i≤l.length → ∃n:Int,lC.l1 l x l.length i=some (n,())∧(n≥0↔x∈l.drop i):=by
 intro k
 induction k with
 | zero=>
  intro i hk hil;refine⟨-1,?_,?_⟩
  ·rw[lC.l1_eq];simp(disch:=omega)only[ss]
  ·rw[cG2 (by omega)];simp
 | succ k ih=>
  intro i hk hil;have hlt:i<l.length:=by omega
  rw[lC.l1_eq,iB 0 hlt];by_cases c:x=l.getD i 0
  ·refine⟨i,?_,?_⟩
   ·simp(disch:=omega)only[ss]
   ·exact⟨fun _=>by rw[c];exact nE2 ..,fun _=>by omega⟩
  ·obtain⟨n,h1,h2⟩:=ih (i+1) (by omega) (by omega);rw[gF2,hF2]at h1;refine⟨n,?_,?_⟩
   ·simp(disch:=omega)only[ss,h1]
   ·rw[h2,pE2];exact⟨.inr,fun h=>h.resolve_left c⟩
theorem fG (l:List Int) (x:Int) (hl:l.length≤1000000):uB.f l x=some (decide (x∈l),()):=by obtain⟨n,h1,h2⟩:=nS1 l x hl _ 0 rfl (kE2 _);rw[qE2]at h1;rw[yE2]at h2;rw[uB.f_eq,lC.f_eq,h1];simp only[hE2];rw[decide_eq_decide.2 h2]
theorem yP (l:List Int) (x:Int) (hl:l.length≤1000000):nD.f l x=some (decide (x∈l),()):=by
 have key:∀(k i:Nat),l.length-i=k→i≤l.length→nD.l1 l x i=some (decide (x∈l.drop i),()):=by
  intro k
  induction k with
  | zero=>
   intro i hk hil;rw[nD.l1_eq,cG2 (by omega)];simp(disch:=omega)only[ss];rfl
  | succ k ih=>
   intro i hk hil;have hlt:i<l.length:=by omega
   have:=ih (i+1) (by omega) (by omega);rw[gF2,hF2]at this;rw[nD.l1_eq,iB 0 hlt];by_cases c:l.getD i 0=x
   ·rw[dp (show x∈l.getD i 0::l.drop (i+1) by rw[c];exact nE2 ..)];simp(disch:=omega)only[ss]
   ·have e:decide (x∈l.getD i 0::l.drop (i+1))=decide (x∈l.drop (i+1)):=decide_eq_decide.2 (by rw[pE2];exact⟨fun h=>h.resolve_left fun q=>c q.symm,.inr⟩);rw[e];simp(disch:=omega)only[ss,this]
 have:=key _ 0 rfl (kE2 _);rw[qE2,yE2]at this;rw[nD.f_eq];exact this
def hasP (l:List Int) (n all:Int):Prop:=l=[]∨n∈l∨n-all-1∈l
theorem uV (l:List Int) (n all:Int) (hl:l.length≤1000000) (hn:0≤n∧n≤1000) (ha:0≤all∧all≤1000):oC (xM.f l n all) (hasP l n all):=by
 unfold hasP;rw[xM.f_eq];by_cases c:l=[]
 ·subst c;rw[lG2];exact⟨true,by simp(disch:=omega)only[ss],by simp⟩
 ·have hp:¬(l.length:Int)=0:=by have:=pH2.2 c;omega
  by_cases c1:n∈l
  ·exact⟨true,by simp(disch:=omega)only[ss,fG l n hl,dp c1],by simp[c1]⟩
  ·refine⟨decide (n-all-1∈l),?_,?_⟩
   ·simp(disch:=omega)only[ss,fG l _ hl,dn c1]
   ·rw[decide_eq_true_iff];simp[c,c1]
theorem zU (y:Int) (hy:0≤y):sF.f y=some (cum y 13,()):=by
 rw[sF.f_eq,eU y hy];have h3:(3:Int)≤13:=by omega
 unfold cum cumT
 cases bL y with
 | true=>simp
 | false=>simp
theorem vZ (n y m d:Int) (e:zA.f n=some (y,m,d,0,())):sL.f n=some ((n,y,m,d,wk n,()),true,()):=by rw[sL.f_eq,e];simp only[hE2];rw[xI];rfl
theorem oW1 (n:Int) (h:¬(-719162≤n∧n≤2932896)):sL.f n=some ((n,0,0,0,wk n,()),false,()):=by rw[sL.f_eq,(vN1 n h).1];simp only[hE2];rw[xI];rfl
def wdP (f:Int) (mo:List Int) (dy:List Dy) (n y m d:Int):Prop:=
 dy=[] ∨ ∃x∈dy,x.2.1=wk n∧(x.1=0∨x.1=((if f=2∨mo≠[]then d else n-fst_ y+1)-1)/7+1∨x.1 = -(((if f=2∨mo≠[]then mlen y m else cum y 13)-(if f=2∨mo≠[]then d else n-fst_ y+1))/7+1))
theorem hQ1 (fr bk n y m d:Int) (l:List Dy) (hl:l.length≤1000000):∀(k i:Nat),l.length-i=k→i≤l.length →
  oC (vA.l3 fr bk l l.length i (n,y,m,d,wk n,())) (∃x∈l.drop i,x.2.1=wk n∧(x.1=0∨x.1=fr∨x.1=bk)):=by
 intro k
 induction k with
 | zero=>
  intro i hk hil;rw[vA.l3_eq,cG2 (by omega)];exact⟨false,by simp(disch:=omega)only[ss],by simp⟩
 | succ k ih=>
  intro i hk hil;have hlt:i<l.length:=by omega
  obtain⟨b,h1,h2⟩:=ih (i+1) (by omega) (by omega);rw[gF2,hF2]at h1;rw[vA.l3_eq,iB ((0,0,()):Dy) hlt];generalize hx:l.getD i ((0,0,()):Dy)=x;have hx':l.getD i ((0,0,()):Int×Int×Unit)=x:=hx;by_cases c:x.2.1=wk n∧(x.1=0∨x.1=fr∨x.1=bk)
  ·refine⟨true,?_,by simp only[true_iff];exact⟨x,nE2 ..,c⟩⟩;obtain⟨c1,c2⟩:=c;by_cases d0:x.1=0
   ·simp(disch:=omega)only[ss,hx',vA.l4_eq]
   ·by_cases d1:x.1=fr
    ·simp(disch:=omega)only[ss,hx',vA.l4_eq]
    ·have d2:x.1=bk:=by omega
     simp(disch:=omega)only[ss,hx',vA.l4_eq]
  ·refine⟨b,?_,?_⟩
   ·by_cases c1:x.2.1=wk n
    ·have d0:¬x.1=0:=fun q=>c ⟨c1,.inl q⟩
     have d1:¬x.1=fr:=fun q=>c ⟨c1,.inr (.inl q)⟩
     have d2:¬x.1=bk:=fun q=>c ⟨c1,.inr (.inr q)⟩
     simp(disch:=omega)only[ss,hx',vA.l4_eq,h1]
    ·simp(disch:=omega)only[ss,hx',vA.l4_eq,h1]
   ·rw[h2];constructor
    ·rintro⟨z,hz,h⟩;exact⟨z,mE2 _ hz,h⟩
    ·rintro⟨z,hz,h⟩;rcases pE2.1 hz with e | hz
     ·exact absurd (e ▸ h) c
     ·exact⟨z,hz,h⟩
section
variable (f iv ct un wkst : Int) (en : Bool) (mo we yd md : List Int) (dy : List Dy) (ho mi se po : List Int)
theorem yQ1 (n y m d:Int) (hs:mo.length≤100000∧dy.length≤100000) (h:iH n y m d) (e:zA.f n=some (y,m,d,0,())):
  oC (vA.f (f,iv,ct,un,wkst,en,mo,we,yd,md,dy,ho,mi,se,po,()) (n,y,m,d,wk n,())) (wdP f mo dy n y m d):=by
 obtain⟨q1,q2,q3,q4,q5,q6⟩:=mF h;obtain⟨v1,v2,v3,v4⟩:=eC.1 h.1;have hy:=iJ y (by omega);have h13:=eD1 y;have hs13:=lH y v1;have hml:=qH y m;have hl0:=hQ1;unfold wdP;rw[vA.f_eq];by_cases c:dy=[]
 ·subst c;exact⟨true,by simp(disch:=omega)only[ss,lG2],by simp⟩
 ·have hp:¬(dy.length:Int)=0:=by have:=pH2.2 c;omega
  have go:∀at_ all:Int,1≤at_→at_≤all→all≤400→oC (vA.l2 at_ all (f,iv,ct,un,wkst,en,mo,we,yd,md,dy,ho,mi,se,po,()) (n,y,m,d,wk n,())) (∃x∈dy,x.2.1=wk n∧(x.1=0∨x.1=(at_-1)/7+1∨x.1 = -((all-at_)/7+1))):=fun at_ all a1 a2 a3=>by
   have:=hQ1 ((at_-1)/7+1) (-((all-at_)/7+1)) n y m d dy (by omega) _ 0 rfl (kE2 _);rw[qE2,yE2]at this;have e0:0-((all-at_)/7+1) = -((all-at_)/7+1):=by omega
   rw[vA.l2_eq];simp(disch:=omega)only[ss,tdn (show(0:Int)≤at_-1 by omega),tdn (show(0:Int)≤all-at_ by omega),e0];exact this
  have e1:=aS n y m d h e;have e2:=zU y (by omega);have e3:=tI y m (by omega);by_cases c2:f=2∨mo≠[]
  ·have l1:vA.l1 (n-fst_ y+1) (cum y 13) true (f,iv,ct,un,wkst,en,mo,we,yd,md,dy,ho,mi,se,po,()) (n,y,m,d,wk n,())=vA.l2 d (mlen y m) (f,iv,ct,un,wkst,en,mo,we,yd,md,dy,ho,mi,se,po,()) (n,y,m,d,wk n,()):=by rw[vA.l1_eq];simp(disch:=omega)only[ss,e3]
   rw[if_pos c2,if_pos c2];have g:=go d (mlen y m) v3 v4 (by omega);have hc:(dy=[] ∨ ∃x∈dy,x.2.1=wk n∧(x.1=0∨x.1=(d-1)/7+1∨x.1 = -((mlen y m-d)/7+1)))↔(∃x∈dy,x.2.1=wk n∧(x.1=0∨x.1=(d-1)/7+1∨x.1 = -((mlen y m-d)/7+1))):=⟨fun h=>h.resolve_left c,.inr⟩
   refine oC.iff ?_ hc.symm;by_cases c3:f=2
   ·simp(disch:=omega)only[ss,e1,e2,l1];exact g
   ·have hm:mo≠[]:=c2.resolve_left c3;have hmp:(mo.length:Int)>0:=by have:=pH2.2 hm;omega
    simp(disch:=omega)only[ss,e1,e2,l1];exact g
  ·rw[if_neg c2,if_neg c2];have c3:¬f=2:=fun q=>c2 (.inl q)
   have c4:mo=[]:=Classical.byContradiction fun q=>c2 (.inr q)
   subst c4;have l1:vA.l1 (n-fst_ y+1) (cum y 13) false (f,iv,ct,un,wkst,en,[],we,yd,md,dy,ho,mi,se,po,()) (n,y,m,d,wk n,())=vA.l2 (n-fst_ y+1) (cum y 13) (f,iv,ct,un,wkst,en,[],we,yd,md,dy,ho,mi,se,po,()) (n,y,m,d,wk n,()):=by rw[vA.l1_eq,cond_false]
   have g:=go (n-fst_ y+1) (cum y 13) (by omega) (by omega) (by omega);have hc:(dy=[] ∨ ∃x∈dy,x.2.1=wk n∧(x.1=0∨x.1=(n-fst_ y+1-1)/7+1∨x.1 = -((cum y 13-(n-fst_ y+1))/7+1)))↔(∃x∈dy,x.2.1=wk n∧(x.1=0∨x.1=(n-fst_ y+1-1)/7+1∨x.1 = -((cum y 13-(n-fst_ y+1))/7+1))):=⟨fun h=>h.resolve_left c,.inr⟩
   refine oC.iff ?_ hc.symm;have hnil:(([]:List Int).length:Int)=0:=rfl;simp(disch:=omega)only[ss,e1,e2,hnil,l1];exact g
def stP (m0 d0 w0 n m d:Int):Prop:=(yd≠[]∨md≠[]∨dy≠[])∨((we≠[]∧wk n=w0)∨(we=[]∧((f=1∧d=d0∧(mo≠[]∨m=m0))∨(f=2∧d=d0)∨(f=3∧wk n=w0)∨(f≠1∧f≠2∧f≠3))))
theorem wF {α:Type} {l:List α}:l≠[]↔(l.length:Int)>0:=by rw[←pH2];omega
theorem rJ1 (s sec n0 y0 m0 d0 w0 n y m d:Int) (hs:mo.length≤100000∧we.length≤100000∧yd.length≤100000∧md.length≤100000∧dy.length≤100000):
  oC (tF.f ((f,iv,ct,un,wkst,en,mo,we,yd,md,dy,ho,mi,se,po,()),s,(n0,y0,m0,d0,w0,()),sec,()) (n,y,m,d,wk n,())) (stP f mo we yd md dy m0 d0 w0 n m d):=by
 unfold stP;rw[tF.f_eq];by_cases c:yd≠[]∨md≠[]∨dy≠[]
 ·have hp:(yd.length:Int)+(md.length:Int)+(dy.length:Int)>0:=by rw[wF,wF,wF]at c;omega
  exact⟨true,by simp(disch:=omega)only[ss],by simp[c]⟩
 ·have hp:¬(yd.length:Int)+(md.length:Int)+(dy.length:Int)>0:=by rw[wF,wF,wF]at c;omega
  by_cases c1:we=[]
  ·subst c1;have hnil:(([]:List Int).length:Int)=0:=rfl;by_cases f1:f=1
   ·subst f1;by_cases dd:d=d0
    ·by_cases mm_:mo=[]
     ·subst mm_;refine⟨decide (m=m0),by simp(disch:=omega)only[ss,hnil],?_⟩;rw[decide_eq_true_iff];simp[c,dd]
     ·have hmp:(mo.length:Int)>0:=wF.1 mm_;exact⟨true,by simp(disch:=omega)only[ss,hnil],by simp[dd,mm_]⟩
    ·exact⟨false,by simp(disch:=omega)only[ss,hnil],by simp[c,dd]⟩
   ·by_cases f2:f=2
    ·subst f2;refine⟨decide (d=d0),by simp(disch:=omega)only[ss,hnil],?_⟩;rw[decide_eq_true_iff];simp[c]
    ·by_cases f3:f=3
     ·subst f3;refine⟨decide (wk n=w0),by simp(disch:=omega)only[ss,hnil],?_⟩;rw[decide_eq_true_iff];simp[c]
     ·exact⟨true,by simp(disch:=omega)only[ss,hnil],by simp[f1,f2,f3]⟩
  ·have hwp:(we.length:Int)>0:=wF.1 c1;refine⟨decide (wk n=w0),by simp(disch:=omega)only[ss],?_⟩;rw[decide_eq_true_iff];simp[c,c1]
def wkP (n:Int):Prop:=we=[] ∨ ∃Y k,oY n wkst Y k∧1≤Y∧Y≤9999∧hasP we k (wks Y wkst)
theorem yL1 (n y m d:Int) (hs:we.length≤100000) (h:iH n y m d) (hw:0≤wkst∧wkst≤6):
  oC (hJ.f (f,iv,ct,un,wkst,en,mo,we,yd,md,dy,ho,mi,se,po,()) (n,y,m,d,wk n,())) (wkP wkst we n):=by
 obtain⟨q1,q2,q3,q4,q5,q6⟩:=mF h;unfold wkP;rw[hJ.f_eq];by_cases c:we=[]
 ·subst c;exact⟨true,by simp(disch:=omega)only[ss,lG2],by simp⟩
 ·have hwp:(we.length:Int)>0:=wF.1 c;obtain⟨Y,k,w1_,w2,w3,w4,w5,w6,_⟩:=aQ n wkst q5 q6 hw.1 hw.2;have hW:=yJ1 Y wkst;by_cases cY:1≤Y∧Y≤9999
  ·rw[if_pos ⟨cY,hw⟩]at hW;have hb:=xP1 Y wkst (by omega);obtain⟨b,h1,h2⟩:=uV we k (wks Y wkst) (by omega) (by omega) (by omega);refine⟨b,by simp(disch:=omega)only[ss,w6,hW,h1],?_⟩;rw[h2];constructor
   ·exact fun h=>.inr ⟨Y,k,w1_,cY.1,cY.2,h⟩
   ·rintro(q | ⟨Y',k',x1,x2,x3,x4⟩)
    ·exact absurd q c
    ·obtain⟨e1,e2⟩:=xL w2 (by omega) w1_ x1;rw[e1,e2];exact x4
  ·rw[if_neg fun q=>cY q.1]at hW;refine⟨false,by simp(disch:=omega)only[ss,w6,hW],?_⟩;simp only[pF2,false_iff];rintro(q | ⟨Y',k',x1,x2,x3,_⟩)
   ·exact c q
   ·obtain⟨e1,_⟩:=xL w2 (by omega) w1_ x1;exact cY (by omega)
end
def fI (r:Rl):Prop:=eN r.2.2.2.2.2.2.1 r.2.2.2.2.2.2.2.1 r.2.2.2.2.2.2.2.2.1 r.2.2.2.2.2.2.2.2.2.1 r.2.2.2.2.2.2.2.2.2.2.1 r.2.2.2.2.2.2.2.2.2.2.2.1 r.2.2.2.2.2.2.2.2.2.2.2.2.1 r.2.2.2.2.2.2.2.2.2.2.2.2.2.1 r.2.2.2.2.2.2.2.2.2.2.2.2.2.2.1
theorem oL {p:Prop} [Decidable p] {X:Option (Bool×Unit)} {Q:Prop} (h:p → ∃b,X=some (b,())∧(b=true→Q)):∃b,(bif decide p then X else some (false,()))=some (b,())∧(b=true→Q):=by
 by_cases c:p
 ·rw[dp c];exact h c
 ·rw[dn c];exact⟨false,rfl,fun q=>by cases q⟩
theorem uS1 (r:Rl):∃b,nI.f r=some (b,())∧(b=true→fI r):=by
 rw[nI.f_eq];refine oL fun h1=>oL fun h2=>oL fun h3=>oL fun h4=>oL fun h5=>oL fun h6=>oL fun h7=>oL fun h8=>⟨_,rfl,fun h9=>?_⟩
 rw[decide_eq_true_iff]at h9;unfold fI eN;omega
theorem tY1 {r:Rl} (hs:fI r) (hM:tA.f r=some (true,())):mayP r.1 r.2.1 r.2.2.1 r.2.2.2.1 r.2.2.2.2.1 r.2.2.2.2.2.1 r.2.2.2.2.2.2.1 r.2.2.2.2.2.2.2.1 r.2.2.2.2.2.2.2.2.1 r.2.2.2.2.2.2.2.2.2.1 r.2.2.2.2.2.2.2.2.2.2.1 r.2.2.2.2.2.2.2.2.2.2.2.1 r.2.2.2.2.2.2.2.2.2.2.2.2.1 r.2.2.2.2.2.2.2.2.2.2.2.2.2.1 r.2.2.2.2.2.2.2.2.2.2.2.2.2.2.1:=by
 have g:=oZ r.1 r.2.1 r.2.2.1 r.2.2.2.1 r.2.2.2.2.1 r.2.2.2.2.2.1 r.2.2.2.2.2.2.1 r.2.2.2.2.2.2.2.1 r.2.2.2.2.2.2.2.2.1 r.2.2.2.2.2.2.2.2.2.1 r.2.2.2.2.2.2.2.2.2.2.1 r.2.2.2.2.2.2.2.2.2.2.2.1 r.2.2.2.2.2.2.2.2.2.2.2.2.1 r.2.2.2.2.2.2.2.2.2.2.2.2.2.1 r.2.2.2.2.2.2.2.2.2.2.2.2.2.2.1 hs;refine Classical.byContradiction fun q=>?_
 have h1:tA.f r=some (false,()):=g.2 q;rw[hM]at h1;cases h1
abbrev inT (t:Int):Prop:= -62135596800≤t∧t≤253402300799
theorem uJ {t:Int} (h:inT t): -719162≤t/86400∧t/86400≤2932896:=by unfold inT at h;omega
theorem tL (r:Rl) (s:Int) (hM:tA.f r=some (true,())) (ht:inT s) (y m d:Int) (e:zA.f (s/86400)=some (y,m,d,0,())):
  jF.f r s=some ((r,s,(s/86400,y,m,d,wk (s/86400),()),s%86400,()),true,()):=by
 have hS:eH.f s=some (true,()):=by rw[(oH s).1,dp ht]
 have hD:=(qF s (by unfold inT at ht;omega) (by unfold inT at ht;omega)).1;rw[jF.f_eq,hM];simp(disch:=omega)only[ss,hS,jF.l1_eq,hD,vZ _ _ _ _ e]
theorem dX1 (r:Rl) (s:Int) (b:Bool) (hM:tA.f r=some (b,())) (h:¬(b=true∧inT s)):jF.f r s=some (((0,0,0,0,0,false,[],[],[],[],[],[],[],[],[],()),0,(0,0,0,0,0,()),0,()),false,()):=by
 rw[jF.f_eq,hM]
 cases b with
 | false=>simp(disch:=omega)only[ss,jF.l1_eq]
 | true=>
  have hS:eH.f s=some (false,()):=by rw[(oH s).1,dn (show ¬inT s from fun q=>h ⟨rfl,q⟩)]
  simp(disch:=omega)only[ss,hS,jF.l1_eq]
section
variable (f iv ct un wkst : Int) (en : Bool) (mo we yd md : List Int) (dy : List Dy) (ho mi se po : List Int)
def fitP (m0 d0 w0 n y m d:Int):Prop:=(mo=[]∨m∈mo)∧hasP yd (n-fst_ y+1) (cum y 13)∧hasP md d (mlen y m)∧wdP f mo dy n y m d∧stP f mo we yd md dy m0 d0 w0 n m d∧wkP wkst we n
theorem bO1 (s sec n0 y0 m0 d0 w0 n y m d:Int) (hs:eN mo we yd md dy ho mi se po) (hw:0≤wkst∧wkst≤6) (h:iH n y m d) (e:zA.f n=some (y,m,d,0,())):
  oC (pB.f ((f,iv,ct,un,wkst,en,mo,we,yd,md,dy,ho,mi,se,po,()),s,(n0,y0,m0,d0,w0,()),sec,()) n) (fitP f wkst mo we yd md dy m0 d0 w0 n y m d):=by
 obtain⟨k1,k2,k3,k4,k5,k6,k7,k8,k9⟩:=hs;obtain⟨q1,q2,q3,q4,q5,q6⟩:=mF h;obtain⟨v1,v2,v3,v4⟩:=eC.1 h.1;have h13:=eD1 y;have hs13:=lH y v1;have hml:=qH y m;have t1:=uV yd (n-fst_ y+1) (cum y 13) (by omega) (by omega) (by omega);have t2:=uV md d (mlen y m) (by omega) (by omega) (by omega);have t3:=yQ1 f iv ct un wkst en mo we yd md dy ho mi se po n y m d ⟨k1,k5⟩ h e;have t4:=rJ1 f iv ct un wkst en mo we yd md dy ho mi se po s sec n0 y0 m0 d0 w0 n y m d ⟨k1,k2,k3,k4,k5⟩;have t5:=yL1 f iv ct un wkst en mo we yd md dy ho mi se po n y m d k2 h hw;have tl:=rY t5;have ta:=gH t4 tl;have tb:=gH t3 ta;have hL:oC (pB.l2 n ((f,iv,ct,un,wkst,en,mo,we,yd,md,dy,ho,mi,se,po,()),s,(n0,y0,m0,d0,w0,()),sec,()) (n,y,m,d,wk n,())) (hasP yd (n-fst_ y+1) (cum y 13)∧hasP md d (mlen y m)∧wdP f mo dy n y m d∧stP f mo we yd md dy m0 d0 w0 n m d∧wkP wkst we n):=by rw[pB.l2_eq,aS n y m d h e];simp only[hE2];rw[zU y (by omega)];simp only[hE2];refine gH t1 ?_;rw[tI y m (by omega)];simp only[hE2];exact gH t2 tb
 unfold fitP;rw[pB.f_eq,vZ n y m d e];simp only[hE2,lE2,cond_false];by_cases c:mo=[]
 ·subst c;have hnil:(([]:List Int).length:Int)=0:=rfl;simp(disch:=omega)only[ss,hnil,pB.l1_eq];exact hL.iff ⟨fun q=>⟨.inl trivial,q⟩,fun q=>q.2⟩
 ·have hmp:(mo.length:Int)>0:=wF.1 c;by_cases cm:m∈mo
  ·simp(disch:=omega)only[ss,fG mo m (by omega),dp cm,pB.l1_eq];exact hL.iff ⟨fun q=>⟨.inr cm,q⟩,fun q=>q.2⟩
  ·simp(disch:=omega)only[ss,fG mo m (by omega),dn cm,pB.l1_eq];exact⟨false,rfl,by simp[c,cm]⟩
theorem mN1 (s sec n0 y0 m0 d0 w0 n:Int) (h:¬(-719162≤n∧n≤2932896)):pB.f ((f,iv,ct,un,wkst,en,mo,we,yd,md,dy,ho,mi,se,po,()),s,(n0,y0,m0,d0,w0,()),sec,()) n=some (false,()):=by rw[pB.f_eq,oW1 n h];simp(disch:=omega)only[ss,pB.l1_eq]
end
theorem uH (l:List Int) (h:l.length≤1000000):yC.f l=some (l,()):=by have hlim:eD=17179869184:=rfl;rw[yC.f_eq];simp(disch:=omega)only[ss,lG2,hlim,dF2]
theorem sO1 (r:Rl) (h:fI r):nH.f r=some (r,()):=by have hlim:eD=17179869184:=rfl;unfold fI eN at h;obtain⟨h1,h2,h3,h4,h5,h6,h7,h8,h9⟩:=h;rw[nH.f_eq,uH _ (by omega),uH _ (by omega),uH _ (by omega),uH _ (by omega),uH _ (by omega),uH _ (by omega),uH _ (by omega),uH _ (by omega)];simp(disch:=omega)only[ss,lG2,hlim,dF2]
def Rise (l:List Int):Prop:=l.Pairwise (· < ·)
theorem kE {x:Int} {l:List Int}:Rise (x::l)↔(∀y,y∈l→x<y)∧Rise l:=xF2
theorem lG :Rise []:=List.Pairwise.nil
theorem yM {a b:List Int}:Rise (a++b)↔Rise a∧Rise b ∧ ∀x,x∈a → ∀y,y∈b→x<y:=aG2
theorem kL :∀{a b:List Int},Rise a→Rise b→(∀x,x∈a↔x∈b)→a=b
 | [],[],_,_,_=>rfl
 | [],y::b,_,_,h=>absurd ((h y).2 (nE2 ..)) (by simp)
 | x::a,[],_,_,h=>absurd ((h x).1 (nE2 ..)) (by simp)
 | x::a,y::b,ha,hb,h=>by
  have pa:=kE.1 ha;have pb:=kE.1 hb;have e:x=y:=by
   rcases pE2.1 ((h x).1 (nE2 ..))with e | e
   ·exact e
   ·rcases pE2.1 ((h y).2 (nE2 ..))with f | f
    ·exact f.symm
    ·have:=pb.1 x e;have:=pa.1 y f;omega
  subst e;have:a=b:=by
   refine kL pa.2 pb.2 fun z=>⟨fun hz=>?_,fun hz=>?_⟩
   ·rcases pE2.1 ((h z).1 (mE2 _ hz))with e | e
    ·have:=pa.1 z hz;omega
    ·exact e
   ·rcases pE2.1 ((h z).2 (mE2 _ hz))with e | e
    ·have:=pb.1 z hz;omega
    ·exact e
  rw[this]
theorem lO :∀{l:List Int},Rise l → ∀{i j:Nat},i<j→j<l.length→l.getD i 0<l.getD j 0
 | [],_,_,_,_,h=>absurd h (by simp)
 | x::l,hr,0,0,h,_=>absurd h (by omega)
 | x::l,hr,0,j+1,_,h=>by
  have hj:j<l.length:=by simpa using h
  rw[List.getD_cons_zero,List.getD_cons_succ,kN 0 hj];exact(kE.1 hr).1 _ (List.getElem_mem hj)
 | x::l,hr,i+1,0,h,_=>absurd h (by omega)
 | x::l,hr,i+1,j+1,h,h2=>by rw[List.getD_cons_succ,List.getD_cons_succ];exact lO (kE.1 hr).2 (by omega) (by simpa using h2)
theorem bJ1 {l:List Int} (hr:Rise l) {i j:Nat} (hi:i<l.length) (hj:j<l.length) (e:l.getD i 0=l.getD j 0):i=j:=by
 rcases Nat.lt_trichotomy i j with h | h | h
 ·have:=lO hr h hj;omega
 ·exact h
 ·have:=lO hr h hi;omega
theorem xG1 :∀{l:List Int},(∀j,0<j→j<l.length→l.getD (j-1) 0<l.getD j 0)→Rise l
 | [],_=>lG
 | [x],_=>kE.2 ⟨fun y h=>absurd h (by simp),lG⟩
 | x::y::l,h=>by
  have hr:Rise (y::l):=xG1 fun j h0 hj=>by
   have:=h (j+1) (by omega) (by simpa using hj)
   match j,h0 with
   | j+1,_=>simpa using this
  have hxy:x<y:=by simpa using h 1 (by omega) (by simp)
  refine kE.2 ⟨fun z hz=>?_,hr⟩;rcases pE2.1 hz with e | e
  ·omega
  ·have:=(kE.1 hr).1 z e;omega
theorem fZ {l:List Int} {x:Int} (h:x∈l):∃i,i<l.length∧l.getD i 0=x:=by obtain⟨i,hi,e⟩:=List.mem_iff_getElem.1 h;exact⟨i,hi,by rw[kN 0 hi,e]⟩
theorem yG {l:List Int} {i:Nat} (h:i<l.length):l.getD i 0∈l:=by rw[kN 0 h];exact List.getElem_mem h
theorem wV {l:List Int} (h:Rise l) (n:Nat):Rise (l.take n):=List.Pairwise.sublist (List.take_sublist n l) h
def tod (h m c:List Int):List Int:=h.flatMap fun a=>m.flatMap fun b=>c.map fun s=>3600*a+60*b+s
def inR (l:List Int) (hi:Int):Prop:=∀x,x∈l→0≤x∧x≤hi
theorem nG1 {h m c:List Int} (hm:inR m 59) (hc:inR c 59) (x:Int):x∈tod h m c↔x/3600∈h∧x/60%60∈m∧x%60∈c:=by
 unfold tod;rw[aH2];constructor
 ·rintro⟨a,ha,hx⟩;obtain⟨b,hb,hx⟩:=aH2.1 hx;obtain⟨s,hs,e⟩:=kF2.1 hx;have:=hm b hb;have:=hc s hs;have e1:x/3600=a:=by omega
  have e2:x/60%60=b:=by omega
  have e3:x%60=s:=by omega
  rw[e1,e2,e3];exact⟨ha,hb,hs⟩
 ·rintro⟨h1,h2,h3⟩;exact⟨_,h1,aH2.2 ⟨_,h2,kF2.2 ⟨_,h3,by omega⟩⟩⟩
theorem kT {l:List Int} (h:Rise l) (f:Int→Int) (hf:∀x y,x<y→f x<f y):Rise (l.map f):=by unfold Rise;rw[List.pairwise_map];exact List.Pairwise.imp (fun {a b} h=>hf a b h) h
theorem nP :∀{l:List Int} {f:Int→List Int},Rise l→(∀a,a∈l→Rise (f a))→(∀a b,a∈l→b∈l→a<b → ∀x,x∈f a → ∀y,y∈f b→x<y)→Rise (l.flatMap f)
 | [],_,_,_,_=>lG
 | a::l,f,h,h1,h2=>by rw[mG2,yM];have p:=kE.1 h;refine⟨h1 a (nE2 ..),nP p.2 (fun b hb=>h1 b (mE2 _ hb)) (fun b b' hb hb'=>h2 b b' (mE2 _ hb) (mE2 _ hb')),fun x hx y hy=>?_⟩;obtain⟨b,hb,hy⟩:=aH2.1 hy;exact h2 a b (nE2 ..) (mE2 _ hb) (p.1 b hb) x hx y hy
theorem uI1 {h m c:List Int} (rh:Rise h) (rm:Rise m) (rc:Rise c) (hm:inR m 59) (hc:inR c 59):Rise (tod h m c):=by
 refine nP rh (fun a ha=>nP rm (fun b hb=>kT rc _ fun x y h=>by omega) ?_) ?_
 ·intro b b' hb hb' hlt x hx y hy;obtain⟨s,hs,e⟩:=kF2.1 hx;obtain⟨s',hs',e'⟩:=kF2.1 hy;have:=hc s hs;have:=hc s' hs';omega
 ·intro b b' hb hb' hlt x hx y hy;obtain⟨d,hd,hx⟩:=aH2.1 hx;obtain⟨d',hd',hy⟩:=aH2.1 hy;obtain⟨s,hs,e⟩:=kF2.1 hx;obtain⟨s',hs',e'⟩:=kF2.1 hy;have:=hc s hs;have:=hc s' hs';have:=hm d hd;have:=hm d' hd';omega
theorem gV1 {h m c:List Int} (hh:inR h 23) (hm:inR m 59) (hc:inR c 59):inR (tod h m c) 86399:=by intro x hx;have⟨h1,h2,h3⟩:=(nG1 hm hc x).1 hx;have:=hh _ h1;omega
def dayL (h m c:List Int) (lo hi d:Int):List Int:=((tod h m c).filter fun x=>decide (lo≤x)&&decide (x<hi)).map (fun x=>d*86400+x)
theorem sP {h m c:List Int} (hh:inR h 23) (hm:inR m 59) (hc:inR c 59) (lo hi d x:Int):
  x∈dayL h m c lo hi d↔x/86400=d∧x%86400∈tod h m c∧lo≤x%86400∧x%86400<hi:=by
 unfold dayL;rw[kF2];constructor
 ·rintro⟨z,hz,e⟩;have⟨h1,h2⟩:=zF2.1 hz;have:=gV1 hh hm hc z h1;have e1:x%86400=z:=by omega
  rw[e1];simp only[iE2,decide_eq_true_eq]at h2;exact⟨by omega,h1,h2.1,h2.2⟩
 ·rintro⟨h1,h2,h3,h4⟩;exact⟨x%86400,zF2.2 ⟨h2,by simp[h3,h4]⟩,by omega⟩
theorem zV {h m c:List Int} (rh:Rise h) (rm:Rise m) (rc:Rise c) (hm:inR m 59) (hc:inR c 59) (lo hi d:Int):Rise (dayL h m c lo hi d):=by
 refine kT ?_ _ fun x y h=>by omega
 exact List.Pairwise.sublist qH2 (uI1 rh rm rc hm hc)
def setF (fits:Int→Bool) (h m c:List Int) (lo hi:Int):Nat→Int→List Int
 | 0,_=>[]
 | k+1,d=>(if fits d=true then dayL h m c lo hi d else [])++setF fits h m c lo hi k (d+1)
theorem dZ {fits:Int→Bool} {h m c:List Int} (hh:inR h 23) (hm:inR m 59) (hc:inR c 59) (lo hi x:Int):∀(k:Nat) (d:Int),
  x∈setF fits h m c lo hi k d↔d≤x/86400∧x/86400<d+k∧fits (x/86400)=true∧x%86400∈tod h m c∧lo≤x%86400∧x%86400<hi
 | 0,d=>by
  constructor
  ·intro hx;exact absurd hx (by simp[setF])
  ·rintro⟨h1,h2,_⟩;omega
 | k+1,d=>by
  unfold setF;rw[xE2,dZ hh hm hc lo hi x k (d+1)];constructor
  ·rintro(h1 | ⟨h1,h2,h3⟩)
   ·by_cases hf:fits d=true
    ·rw[if_pos hf,sP hh hm hc]at h1;obtain⟨e,h1⟩:=h1;rw[e];exact⟨by omega,by omega,hf,h1⟩
    ·rw[if_neg hf]at h1;exact absurd h1 (by simp)
   ·exact⟨by omega,by omega,h3⟩
  ·rintro⟨h1,h2,h3,h4⟩;by_cases e:x/86400=d
   ·rw[e]at h3;rw[if_pos h3,sP hh hm hc];exact Or.inl ⟨e,h4⟩
   ·exact Or.inr ⟨by omega,by omega,h3,h4⟩
theorem kE1 {fits:Int→Bool} {h m c:List Int} (rh:Rise h) (rm:Rise m) (rc:Rise c) (hh:inR h 23) (hm:inR m 59) (hc:inR c 59) (lo hi:Int):∀(k:Nat) (d:Int),
  Rise (setF fits h m c lo hi k d)
 | 0,_=>lG
 | k+1,d=>by
  unfold setF;rw[yM];refine⟨?_,kE1 rh rm rc hh hm hc lo hi k (d+1),?_⟩
  ·by_cases hf:fits d=true
   ·rw[if_pos hf];exact zV rh rm rc hm hc lo hi d
   ·rw[if_neg hf];exact lG
  ·intro x hx y hy;have hy:=(dZ hh hm hc lo hi y k (d+1)).1 hy;by_cases hf:fits d=true
   ·rw[if_pos hf,sP hh hm hc]at hx;omega
   ·rw[if_neg hf]at hx;exact absurd hx (by simp)
def upTo (n:Nat):List Int:=(List.range n).map fun(j:Nat)=>(j:Int)
theorem cV (n:Nat):upTo (n+1)=upTo n++[(n:Int)]:=by unfold upTo;rw[List.range_succ,mF2];rfl
theorem qA1 (n:Nat):(upTo n).length=n:=by unfold upTo;simp
theorem yG1 {n:Nat} {x:Int}:x∈upTo n↔0≤x∧x<n:=by
 unfold upTo;rw[kF2];constructor
 ·rintro⟨j,hj,e⟩;have:=List.mem_range.1 hj;omega
 ·rintro⟨h0,h1⟩;exact⟨x.toNat,List.mem_range.2 (by omega),by omega⟩
theorem mD1 :∀n,Rise (upTo n)
 | 0=>lG
 | n+1=>by rw[cV,yM];refine⟨mD1 n,kE.2 ⟨fun y h=>absurd h (by simp),lG⟩,fun x hx y hy=>?_⟩;have:=yG1.1 hx;have:=wF2.1 hy;omega
theorem pW1 (all:Nat) (h:all≤1000):∀(k i:Nat),all-i=k→i≤all→xE.l1 (all:Int) (i:Int) (upTo i)=some (upTo all,()):=by
 have hlim:eD=17179869184:=rfl;intro k
 induction k with
 | zero=>
  intro i hk hil;have e:i=all:=by omega
  subst e;rw[xE.l1_eq];simp(disch:=omega)only[ss]
 | succ k ih=>
  intro i hk hil;have hlen:=qA1 i;have:=ih (i+1) (by omega) (by omega);rw[cV,gF2,hF2]at this;rw[xE.l1_eq];simp(disch:=omega)only[ss,hlen,vE2,hlim];exact this
theorem bU1 (all:Nat) (h:all≤1000):∀(k i:Nat),all-i=k→i≤all→vE.l1 (all:Int) (i:Int) (upTo i)=some (upTo all,()):=by
 have hlim:eD=17179869184:=rfl;intro k
 induction k with
 | zero=>
  intro i hk hil;have e:i=all:=by omega
  subst e;rw[vE.l1_eq];simp(disch:=omega)only[ss]
 | succ k ih=>
  intro i hk hil;have hlen:=qA1 i;have:=ih (i+1) (by omega) (by omega);rw[cV,gF2,hF2]at this;rw[vE.l1_eq];simp(disch:=omega)only[ss,hlen,vE2,hlim];exact this
def tms (l:List Int) (single:Bool) (n:Int) (all:Nat):List Int:=if l=[]then(if single=true then [n]else upTo all)else l
theorem jK (l:List Int) (single:Bool) (n:Int) (all:Nat) (hl:l.length≤1000000) (hb:all≤100):
  xE.f l single n (all:Int)=some (tms l single n all,())∧dF.f l single n (all:Int)=some (tms l single n all,()):=by
 have hlim:eD=17179869184:=rfl;unfold tms;rw[xE.f_eq,dF.f_eq];by_cases c:l=[]
 ·subst c;have hnil:(([]:List Int).length:Int)=0:=rfl;rw[if_pos rfl]
  cases single with
  | true=>
   rw[if_pos rfl];simp(disch:=omega)only[ss,hnil];exact⟨trivial,trivial⟩
  | false=>
   have hl:=pW1 all (by omega) all 0 (by omega) (kE2 _);have hv:=bU1 all (by omega) all 0 (by omega) (kE2 _);rw[qE2]at hl hv;rw[if_neg (by simp)];simp(disch:=omega)only[ss,hnil,vE.f_eq];have e:upTo 0=[]:=rfl;rw[e]at hl hv;rw[hl,hv];exact⟨rfl,rfl⟩
 ·have hp:(l.length:Int)>0:=wF.1 c;have hC:mD.f l=some (l,()):=by rw[mD.f_sem];show(bif decide (l.length≤eD)then some (l,())else none)=_;simp(disch:=omega)only[ss,hlim]
  rw[if_neg c];simp(disch:=omega)only[ss,hC,uH l hl];exact⟨trivial,trivial⟩
def okT (x:List Int) (hi:Int):Prop:=Rise x∧inR x hi∧x.length≤60
theorem mX1 {l:List Int} {lo hi:Int} {z:Bool} (h:wi l lo hi z):Rise l:=xG1 fun j h0 hj=>(h.1 j hj).2 h0
theorem vL1 (l:List Int) (single:Bool) (n hi:Int) (all:Nat) (hw:wi l 0 hi true) (hn:0≤n∧n≤hi) (ha:(all:Int)=hi+1) (hb:all≤60):okT (tms l single n all) hi:=by
 unfold tms;by_cases c:l=[]
 ·rw[if_pos c]
  cases single with
  | true=>
   rw[if_pos rfl];refine⟨kE.2 ⟨fun y h=>absurd h (by simp),lG⟩,fun x hx=>?_,by simp⟩;have:=wF2.1 hx;omega
  | false=>
   rw[if_neg (by simp)];refine⟨mD1 all,fun x hx=>?_,by rw[qA1];exact hb⟩;have:=yG1.1 hx;omega
 ·rw[if_neg c];refine⟨mX1 hw,fun x hx=>?_,hw.2⟩;obtain⟨i,hi1,e⟩:=fZ hx;have:=(hw.1 i hi1).1;unfold okI at this;omega
theorem jP1 (r:Rl) (s n:Int) (hr:fI r):∃k,zC.f r s n=some (k,()):=by
 obtain⟨b,hb⟩:=pO r hr;have hV:=gO r hr;rw[hb]at hV;have hT:=(oH s).2;have hlast:∀x:Int,∃k,zC.l2 n x=some (k,()):=fun x=>⟨_,by rw[zC.l2_eq]⟩
 have hl1:∀(x:Int) (c:Bool),∃k,zC.l1 n x c=some (k,()):=fun x c=>by
  rw[zC.l1_eq]
  cases c with
  | true=>rw[cond_true];exact hlast _
  | false=>rw[cond_false];exact hlast _
 have hfin:∀(t:List Int×List Int×List Int×Unit),bF.f r s=some t → ∃k,zC.f r s n=some (k,()):=fun t ht=>by
  rw[zC.f_eq,ht,hE2];by_cases c:(r.2.2.2.2.2.2.2.2.2.2.2.2.2.2.1.length:Int)>0
  ·rw[dp c,cond_true];exact hl1 _ _
  ·rw[dn c,cond_false];exact hl1 _ _
 have hright:sD.f r s=some (b&&decide (-62135596800≤s∧s≤253402300799),()):=by rw[sD.f_eq,←hV,hT];cases b <;> rfl
 by_cases c:b=true∧inT s
 ·obtain⟨rfl,ht⟩:=c;have hD:=(qF s (by unfold inT at ht;omega) (by unfold inT at ht;omega)).2;unfold fI eN at hr;obtain⟨_,_,_,_,_,h6,h7,h8,_⟩:=hr;have t1:∀sg n,dF.f r.2.2.2.2.2.2.2.2.2.2.2.1 sg n 24=some (tms r.2.2.2.2.2.2.2.2.2.2.2.1 sg n 24,()):=fun sg n=>(jK _ sg n 24 (by omega) (by omega)).2
  have t2:∀sg n,dF.f r.2.2.2.2.2.2.2.2.2.2.2.2.1 sg n 60=some (tms r.2.2.2.2.2.2.2.2.2.2.2.2.1 sg n 60,()):=fun sg n=>(jK _ sg n 60 (by omega) (by omega)).2
  have t3:∀sg n,dF.f r.2.2.2.2.2.2.2.2.2.2.2.2.2.1 sg n 60=some (tms r.2.2.2.2.2.2.2.2.2.2.2.2.2.1 sg n 60,()):=fun sg n=>(jK _ sg n 60 (by omega) (by omega)).2
  rw[dp ht]at hright;have hX:∃t,bF.f r s=some t:=by rw[bF.f_eq,hright];simp(disch:=omega)only[ss,hD,t1,t2,t3];exact⟨_,rfl⟩
  obtain⟨t,hX⟩:=hX;exact hfin t hX
 ·have e:(b&&decide (-62135596800≤s∧s≤253402300799))=false:=by
   cases b with
   | false=>rfl
   | true=>rw[dn (fun q=>c ⟨rfl,q⟩)];rfl
  rw[e]at hright;refine hfin ([],[],[],()) ?_;rw[bF.f_eq,hright];simp(disch:=omega)only[ss]
def jK1 (f w:Int) (we:List Int) (n k:Int):Prop:=
 (f=1∧we=[] ∧ ∃m d,iH n k m d)∨(f=1∧we≠[]∧0≤k ∧ ∃j,oY n w k j)∨(f=2 ∧ ∃y m d,iH n y m d∧k=12*y+m)∨(f=3∧k=(n+3-w)/7)∨(f=4∧k=n)
def dE1 (f w:Int) (we:List Int) (t k:Int):Prop:=(f≤4∧jK1 f w we (t/86400) k)∨(f=5∧k=t/3600)∨(f=6∧k=t/60)∨(f=7∧k=t)
def off (f w:Int):Int:=if f=3 then(if w<3 then 2932895 else 2932896)else 0
theorem xX (t k:Int) (h:inT t) (hk:0<k) (hk2:k≤3600):uL.f t k=some (t/k,())∧cG.f t k=some (t/k,()):=by
 obtain⟨e1,e2⟩:=tdm t k hk;have b1:=Int.emod_nonneg t (show k≠0 by omega);have b2:=dI2 t hk;have hq:=Int.emod_add_mul_ediv t k;unfold inT at h;have b3:t/k≤253402300799:=by have:=Int.ediv_le_ediv hk h.2;have:=Int.ediv_le_self k (show(0:Int)≤253402300799 by omega);omega
 have b4: -62135596801≤t/k:=by
  have h5:=Int.ediv_le_ediv hk h.1;have h6: -62135596801 ≤ -62135596800/k:=by refine Int.le_ediv_of_mul_le hk ?_;have:1*62135596801≤k*62135596801:=Int.mul_le_mul_of_nonneg_right (by omega) (by omega);omega
  omega
 constructor
 ·rw[uL.f_eq];by_cases c:t<0
  ·have hd:(0-t+k-1)/k = -(t/k):=by
    by_cases hz:t%k=0
    ·have:0-t+k-1=(k-1)+k*(-(t/k)):=by rw[Int.mul_neg];omega
     rw[this,Int.add_mul_ediv_left _ _ (by omega),Int.ediv_eq_zero_of_lt (by omega) (by omega)];omega
    ·have:0-t+k-1=(k-t%k-1)+k*(-(t/k)):=by rw[Int.mul_neg];omega
     rw[this,Int.add_mul_ediv_left _ _ (by omega),Int.ediv_eq_zero_of_lt (by omega) (by omega)];omega
   have hk0:¬k=0:=by omega
   have e3:0 - -(t/k)=t/k:=by omega
   simp(disch:=omega)only[ss,tdn (show(0:Int)≤0-t+k-1 by omega),hd,e3]
  ·simp(disch:=omega)only[ss,tdn (show(0:Int)≤t by omega)]
 ·rw[cG.f_eq,e1,e2];by_cases c:t%k≠0∧t<0
  ·rw[if_pos c,if_pos c];have q:t/k+1-1=t/k:=by omega
   simp(disch:=omega)only[ss,q]
  ·rw[if_neg c,if_neg c];simp(disch:=omega)only[ss]
theorem mD2 (a:Int) (h1: -10000000≤a) (h2:a≤10000000):cG.f a 7=some (a/7,()):=by
 obtain⟨e1,e2⟩:=tdm a 7 (by omega);rw[cG.f_eq,e1,e2];by_cases c:a%7≠0∧a<0
 ·rw[if_pos c,if_pos c];have q:a/7+1-1=a/7:=by omega
  simp(disch:=omega)only[ss,q]
 ·rw[if_neg c,if_neg c];simp(disch:=omega)only[ss]
section
variable (f iv ct un wkst : Int) (en : Bool) (mo we yd md : List Int) (dy : List Dy) (ho mi se po : List Int)
theorem nH1 (t:Int) (ht:inT t) (hf:1≤f∧f≤7) (hw:0≤wkst∧wkst≤6) (hl:we.length≤100000):
  ∃k,dE1 f wkst we t k∧(-300000000000≤k∧k≤300000000000)∧uI.f (f,iv,ct,un,wkst,en,mo,we,yd,md,dy,ho,mi,se,po,()) t=some (k+off f wkst,())∧oD.f (f,iv,ct,un,wkst,en,mo,we,yd,md,dy,ho,mi,se,po,()) t=some (k,()):=by
 have hb:=uJ ht;obtain⟨y,m,d,hd,e,e'⟩:=kJ (t/86400) hb.1 hb.2;obtain⟨hD,hV⟩:=qF t (by unfold inT at ht;omega) (by unfold inT at ht;omega);obtain⟨q1,q2,q3,q4,_⟩:=mF hd;obtain⟨v1,v2,v3,v4⟩:=eC.1 hd.1;have hof:=vZ (t/86400) y m d e;rw[uI.f_eq,oD.f_eq,hD,hV];simp only[hE2];rw[hof];simp only[hE2];by_cases f1:f=1
 ·subst f1;have ho:off 1 wkst=0:=rfl;by_cases c:we=[]
  ·subst c;have hnil:(([]:List Int).length:Int)=0:=rfl;refine⟨y,.inl ⟨by omega,.inl ⟨rfl,rfl,m,d,hd⟩⟩,by omega,?_,?_⟩
   ·rw[ho,Int.add_zero];simp(disch:=omega)only[ss,aL.f_eq,hnil]
   ·simp(disch:=omega)only[ss,oI.f_eq,hnil,e']
  ·have hp:=wF.1 c;obtain⟨Y,K,h1,h2,h3,h4,h5,h6,h7⟩:=aQ (t/86400) wkst hb.1 hb.2 hw.1 hw.2;refine⟨Y,.inl ⟨by omega,.inr (.inl ⟨rfl,c,h2,K,h1⟩)⟩,by omega,?_,?_⟩
   ·rw[ho,Int.add_zero];simp(disch:=omega)only[ss,aL.f_eq,h6]
   ·simp(disch:=omega)only[ss,oI.f_eq,h7]
 ·by_cases f2:f=2
  ·subst f2;have ho:off 2 wkst=0:=rfl;refine⟨12*y+m,.inl ⟨by omega,.inr (.inr (.inl ⟨rfl,y,m,d,hd,rfl⟩))⟩,by omega,?_,?_⟩
   ·rw[ho,Int.add_zero];simp(disch:=omega)only[ss]
   ·simp(disch:=omega)only[ss,e']
  ·by_cases f3:f=3
   ·subst f3;have hk:=tK1 (t/86400);have hm:Int.tmod (wk (t/86400)-wkst+7) 7=(t/86400+3-wkst)%7:=by rw[tmn (by omega)];unfold wk;omega
    have h7:=mD2 (t/86400+3-wkst) (by omega) (by omega);have hb7:Int.tdiv (t/86400-(t/86400+3-wkst)%7+20530272) 7=(t/86400+3-wkst)/7+off 3 wkst:=by rw[tdn (by omega)];unfold off;rw[if_pos rfl];split <;> omega
    have ho:off 3 wkst=2932895∨off 3 wkst=2932896:=by unfold off;rw[if_pos rfl];split <;> simp
    refine⟨(t/86400+3-wkst)/7,.inl ⟨by omega,.inr (.inr (.inr (.inl ⟨rfl,rfl⟩)))⟩,by omega,?_,?_⟩
    ·rw[zN.f_eq,xI];simp(disch:=omega)only[ss,hm,hb7]
    ·simp(disch:=omega)only[ss,h7]
   ·have ho:off f wkst=0:=by unfold off;rw[if_neg f3]
    rw[ho];by_cases f4:f=4
    ·subst f4;refine⟨t/86400,.inl ⟨by omega,.inr (.inr (.inr (.inr ⟨rfl,rfl⟩)))⟩,by omega,?_,?_⟩
     ·rw[Int.add_zero];simp(disch:=omega)only[ss]
     ·simp(disch:=omega)only[ss]
    ·by_cases f5:f=5
     ·subst f5;obtain⟨g1,g2⟩:=xX t 3600 ht (by omega) (by omega);refine⟨t/3600,.inr (.inl ⟨rfl,rfl⟩),by unfold inT at ht;omega,?_,?_⟩
      ·rw[Int.add_zero];simp(disch:=omega)only[ss,g1]
      ·simp(disch:=omega)only[ss,g2]
     ·by_cases f6:f=6
      ·subst f6;obtain⟨g1,g2⟩:=xX t 60 ht (by omega) (by omega);refine⟨t/60,.inr (.inr (.inl ⟨rfl,rfl⟩)),by unfold inT at ht;omega,?_,?_⟩
       ·rw[Int.add_zero];simp(disch:=omega)only[ss,g1]
       ·simp(disch:=omega)only[ss,g2]
      ·have f7:f=7:=by omega
       subst f7;refine⟨t,.inr (.inr (.inr ⟨rfl,rfl⟩)),by unfold inT at ht;omega,?_,?_⟩
       ·rw[Int.add_zero];simp(disch:=omega)only[ss]
       ·simp(disch:=omega)only[ss]
end
theorem gQ {n y y':Int} (h0:1≤y) (h1:1≤y') (a1:fst_ y≤n) (a2:n<fst_ (y+1)) (b1:fst_ y'≤n) (b2:n<fst_ (y'+1)):y=y':=by
 rcases yH2 y y' with c | c | c
 ·have:=tD (a:=y+1) (b:=y') (by omega) (by omega);omega
 ·exact c
 ·have:=tD (a:=y'+1) (b:=y) (by omega) (by omega);omega
theorem eA1 {f w:Int} {we:List Int} {n n' k k':Int} (h:jK1 f w we n k) (g:jK1 f w we n' k') (hn:n≤n'):k≤k':=by
 rcases h with⟨f1,e1,m,d,h⟩ | ⟨f1,e1,h0,j,h⟩ | ⟨f1,y,m,d,h,rfl⟩ | ⟨f1,rfl⟩ | ⟨f1,rfl⟩ <;>
  rcases g with⟨f2,e2,m',d',g⟩ | ⟨f2,e2,g0,j',g⟩ | ⟨f2,y',m',d',g,rfl⟩ | ⟨f2,rfl⟩ | ⟨f2,rfl⟩ <;> first | omega | (exact absurd e1 e2) | (exact absurd e2 e1) | skip
 ·obtain⟨a1,a2,_⟩:=mF h;obtain⟨b1,b2,_⟩:=mF g;obtain⟨v1,_⟩:=eC.1 h.1;obtain⟨v2,_⟩:=eC.1 g.1;refine Int.not_lt.1 fun c=>?_
  have:=tD (a:=k'+1) (b:=k) (by omega) (by omega);omega
 ·refine Int.not_lt.1 fun c=>?_
  have:=lF1 (a:=k'+1) (b:=k) (w:=w) (by omega) (by omega);obtain⟨a1,a2,_⟩:=h;obtain⟨b1,b2,_⟩:=g;omega
 ·obtain⟨a1,a2,a3,a4,_⟩:=mF h;obtain⟨b1,b2,b3,b4,_⟩:=mF g;obtain⟨v1,v1',v1'',v1d⟩:=eC.1 h.1;obtain⟨v2,v2',v2'',v2d⟩:=eC.1 g.1;have h2:=h.2;have g2:=g.2;rcases yH2 y y' with c | c | c
  ·omega
  ·subst c;refine Int.not_lt.1 fun c=>?_
   have cs:=oE y m' b3 b4;have:=mK y (a:=m'+1) (b:=m) (by omega) (by omega) (by omega);omega
  ·have:=tD (a:=y'+1) (b:=y) (by omega) (by omega);omega
theorem xZ {f w:Int} {we:List Int} {t t' k k':Int} (h:dE1 f w we t k) (g:dE1 f w we t' k') (ht:t≤t'):k≤k':=by
 rcases h with⟨a,h⟩ | ⟨a,rfl⟩ | ⟨a,rfl⟩ | ⟨a,rfl⟩ <;> rcases g with⟨b,g⟩ | ⟨b,rfl⟩ | ⟨b,rfl⟩ | ⟨b,rfl⟩ <;> first | omega | skip
 exact eA1 h g (by omega)
end Go.GV.YtegmfagkklekaaaGreatDoor
