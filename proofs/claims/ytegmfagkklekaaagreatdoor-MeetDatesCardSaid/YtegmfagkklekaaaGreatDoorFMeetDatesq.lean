/-
Part of the words that MeetDates is proved with: no statement of its own, no conditions.
-/
import Derived.Test.YtegmfagkklekaaaGreatDoorFMeetDatesp
set_option linter.unusedVariables false
set_option linter.unusedSimpArgs false
namespace Go.GV
theorem wr {x:Int} (h1: -9223372036854775808≤x) (h2:x≤9223372036854775807):w6 x=x:=Go.IntWalk.i64_in x ⟨h1,h2⟩
theorem xS1 {n:Nat} (h:n<9223372036854775807):w6 ((n:Int)+1)=((n+1:Nat):Int):=by rw[wr (by omega) (by omega)];omega
theorem dp {p:Prop} [Decidable p] (h:p):decide p=true:=decide_eq_true h
theorem dn {p:Prop} [Decidable p] (h:¬p):decide p=false:=decide_eq_false h
theorem rS1 (n m:Nat):((n:Int)+(m:Int)).toNat=n+m:=by omega
theorem bS1 (n:Nat):((n:Int)+1).toNat=n+1:=by omega
theorem fQ1 (n:Nat):((n:Int)-1).toNat=n-1:=by omega
theorem tn_0 :(0:Int).toNat=0:=rfl
theorem tn_1 :(1:Int).toNat=1:=rfl
theorem ss :(∀(p:Prop) [Decidable p],p→decide p=true)∧(∀(p:Prop) [Decidable p],¬p→decide p=false)∧(∀(h:Decidable True),@decide True h=true)∧(∀(h:Decidable False),@decide False h=false) ∧
  ((!true)=false)∧((!false)=true)∧(∀b,(true&&b)=b)∧(∀b,(false&&b)=false)∧(∀b,(b&&true)=b)∧(∀b,(b&&false)=false) ∧
  (∀b,(true||b)=true)∧(∀b,(false||b)=b)∧(∀b,(b||true)=true)∧(∀b,(b||false)=b)∧(∀(x:Int),-9223372036854775808≤x→x≤9223372036854775807→w6 x=x) ∧
  (∀n m:Nat,((n:Int)+(m:Int)).toNat=n+m)∧(∀n:Nat,((n:Int)+1).toNat=n+1)∧(∀n:Nat,((n:Int)-1).toNat=n-1)∧((0:Int).toNat=0)∧((1:Int).toNat=1)∧(∀n:Nat,(n:Int).toNat=n) ∧
  (∀(α:Type) (a b:α),(bif true then a else b)=a)∧(∀(α:Type) (a b:α),(bif false then a else b)=b)∧(∀(α β:Type) (a:α) (f:α→Option β),(some a).bind f=f a):=
 ⟨fun _=>dp,fun _=>dn,fun _=>decide_true _,fun _=>decide_false _,rfl,rfl,Bool.true_and,Bool.false_and,uZ1,Bool.and_false,Bool.true_or,Bool.false_or,Bool.or_true,Bool.or_false,fun _=>wr,rS1,bS1,fQ1,tn_0,tn_1,fun _=>rfl,fun _ _ _=>rfl,fun _ _ _=>rfl,fun _ _ _ _=>rfl⟩
abbrev B (s:ByteArray):List UInt8:=s.data.toList
def mkS (l:List UInt8):ByteArray:=⟨l.toArray⟩
theorem B_mk (l:List UInt8):B (mkS l)=l:=rfl
theorem mk_B (s:ByteArray):mkS (B s)=s:=rfl
theorem iM1 {a b:ByteArray} (h:B a=B b):a=b:=by rw[←mk_B a,←mk_B b,h]
theorem iP1 (s:ByteArray):s.size=(B s).length:=by cases s;simp[ByteArray.size,B]
theorem eT1 (s:ByteArray) (a b:Nat):B (s.extract a b)=((B s).drop a).take (b-a):=by obtain⟨⟨l⟩⟩:=s;rw[ByteArray.extract_mk]
theorem vC1 (s:ByteArray):s.toList=B s:=ByteArray.toList_eq s
theorem oU1 (a b:ByteArray):(a.toList==b.toList)=decide (a=b):=by rw[vC1,vC1,Bool.eq_iff_iff,beq_iff_eq,decide_eq_true_eq];exact⟨iM1,fun h=>by rw[h]⟩
theorem jS1 (s:ByteArray) (k:Nat):B (s.extract 0 k)=(B s).take k:=by rw[eT1];simp
theorem vO1 (s:ByteArray) (k:Nat):B (s.extract k s.size)=(B s).drop k:=by rw[eT1,iP1,eX1 (by simp)]
def I (l:List UInt8):List Int:=l.map fun b=>(b.toNat:Int)
theorem okI {a:List Int} (h:∀x∈a,vP1 .u8 x):a=I (a.map fun n=>UInt8.ofNat n.toNat):=by simp only[I,List.map_map];refine(List.map_id a).symm.trans (wZ1 fun x hx=>?_);have h1:=h x hx;simp only[vP1]at h1;have h2:(0:Int)≤x∧x≤255:=h1;simp only[Function.comp,id,UInt8.toNat_ofNat'];omega
theorem dL1 {α:Type} (l:List α) (i:Nat) (d:α) (h:i<l.length):l.drop i=l.getD i d::l.drop (i+1):=by rw[tW1,yW1 h,zY1];exact List.drop_eq_getElem_cons h
theorem yK1 {α:Type} (o:List α) (p z:α):(o++[p]).getD o.length z=p:=by simp[tW1]
theorem tN1 {α:Type} (o:List α) (p v:α):(o++[p]).set o.length v=o++[v]:=by simp
theorem gI {α:Type} (o:List α) (p:α):(o++[p]).length=o.length+1:=by simp
theorem eX {n:Nat} (h0:0<n) (h:n<4611686018427387904):w6 ((n:Int)-1)=((n-1:Nat):Int):=by rw[wr (by omega) (by omega)];omega
theorem hQ1 {n:Nat} (h:n<4611686018427387904):w6 ((n:Int)+1)=((n+1:Nat):Int):=xS1 (by omega)
theorem zT {α:Type} (l:List α):l=[] ∨ ∃o p,l=o++[p]:=by
 rcases List.eq_nil_or_concat l with h | ⟨o,p,h⟩
 ·exact .inl h
 ·exact .inr ⟨o,p,by simpa using h⟩
theorem jK {α:Type} {l:List α} {i:Nat} (z:α) (h:i<l.length):l.getD i z=l[i]:=by simp[tW1,h]
theorem xZ {α:Type} {l:List α} {i:Nat} (z:α) (h:i<l.length):l.getD i z∈l:=by rw[jK z h];exact List.getElem_mem h
theorem aC {α:Type} {l:List α} {i:Nat} (z:α) (h:i<l.length):l.drop i=l.getD i z::l.drop (i+1):=dL1 l i z h
theorem jH {α:Type} {l:List α} {i:Nat} (z:α) (h:i<l.length):l.take (i+1)=l.take i++[l.getD i z]:=by rw[List.take_add_one,yW1 h,jK z h];rfl
theorem pF1 {α:Type} {R:α→α→Prop} {l:List α} {x:α} {k:Nat} (hs:l.Pairwise R) (h1:∀a∈l.take k,R a x) (h2:∀a∈l.drop k,R x a):(l.take k++([x]++l.drop k)).Pairwise R:=by
 rw[List.singleton_append];refine mZ1.2 ⟨hs.sublist (List.take_sublist k l),gY1.2 ⟨h2,hs.sublist (List.drop_sublist k l)⟩,?_⟩;intro a ha b hb;rcases sW1.1 hb with rfl | hb
 ·exact h1 a ha
 ·have:=hs;rw[←fY1 k l]at this;exact(mZ1.1 this).2.2 a ha b hb
theorem gN1 {α:Type} (l:List α) (x:α) (k:Nat):(l.take k++([x]++l.drop k)).Perm (x::l):=by
 have h:(l.take k++([x]++l.drop k)).Perm (x::(l.take k++l.drop k)):=by rw[List.singleton_append];exact List.perm_middle
 rwa[fY1]at h
theorem qO1 (a b:Int):mm true a b=max a b:=by unfold mm;simp only[cond_true];split <;> omega
theorem oG1 (a b:Int):mm false a b=min a b:=by unfold mm;simp only[cond_false];split <;> omega
end Go.GV
namespace Go.GV.YtegmfagkklekaaaGreatDoor
open Go.Proofs
def eP (y:Int):Bool:=decide (y%4=0)&&(!decide (y%100=0)||decide (y%400=0))
def mlen (y m:Int):Int:=if m=2 then(if eP y=true then 29 else 28)else if m=4∨m=6∨m=9∨m=11 then 30 else if 1≤m∧m≤12 then 31 else 0
def cumT (m:Int):Int:=if m≤1 then 0 else if m=2 then 31 else if m=3 then 59 else if m=4 then 90 else if m=5 then 120 else if m=6 then 151 else if m=7 then 181 else if m=8 then 212 else if m=9 then 243 else if m=10 then 273 else if m=11 then 304 else if m=12 then 334 else 365
def cum (y m:Int):Int:=cumT m+if 3≤m∧eP y=true then 1 else 0
def fst_ (y:Int):Int:=365*(y-1)+(y-1)/4-(y-1)/100+(y-1)/400-719162
theorem tmn {n:Int} (h:0≤n) (k:Int):Int.tmod n k=n%k:=Int.tmod_eq_emod_of_nonneg h
theorem tdn {n:Int} (h:0≤n) (k:Int):Int.tdiv n k=n/k:=Int.tdiv_eq_ediv_of_nonneg h
theorem jA1 (y:Int) (hy:0≤y):mH.f y=some (eP y,()):=by
 rw[mH.f_eq];simp only[tmn hy];unfold eP;by_cases h1:y%4=0
 ·by_cases h2:y%100=0
  ·by_cases h3:y%400=0
   ·simp(disch:=omega)only[ss]
   ·simp(disch:=omega)only[ss]
  ·simp(disch:=omega)only[ss]
 ·simp(disch:=omega)only[ss]
theorem sG (y m:Int) (hy:0≤y):eB.f y m=some (mlen y m,()):=by
 have hL:=jA1 y hy;rw[eB.f_eq];unfold mlen;by_cases h2:m=2
 ·subst h2;simp(disch:=omega)only[ss,eB.l1_eq,hL];cases eP y <;> rfl
 ·rw[if_neg h2];by_cases h4:m=4∨m=6∨m=9∨m=11
  ·rw[if_pos h4];rcases h4 with rfl | rfl | rfl | rfl
   all_goals (simp(disch:=omega)only[ss,eB.l1_eq])
  ·rw[if_neg h4];by_cases hr:1≤m∧m≤12
   ·rw[if_pos hr];have:m=1∨m=3∨m=5∨m=7∨m=8∨m=10∨m=12:=by omega
    rcases this with rfl | rfl | rfl | rfl | rfl | rfl | rfl
    all_goals (simp(disch:=omega)only[ss,eB.l1_eq,eB.l2_eq])
   ·rw[if_neg hr];simp(disch:=omega)only[ss,eB.l1_eq,eB.l2_eq]
theorem kK (y m:Int):0≤mlen y m∧mlen y m≤31∧(0<mlen y m→1≤m∧m≤12):=by
 unfold mlen;split
 ·cases eP y <;> (simp;omega)
 ·split
  ·omega
  ·split <;> omega
theorem nE (y m:Int) (h1:1≤m) (h2:m≤12):cum y (m+1)=cum y m+mlen y m:=by
 have:m=1∨m=2∨m=3∨m=4∨m=5∨m=6∨m=7∨m=8∨m=9∨m=10∨m=11∨m=12:=by omega
 unfold cum mlen cumT;cases eP y <;> (rcases this with rfl | rfl | rfl | rfl | rfl | rfl | rfl | rfl | rfl | rfl | rfl | rfl <;> simp)
theorem jL (y m:Int):0≤cum y m∧cum y m≤366:=by unfold cum cumT;split <;> (try split) <;> (repeat' split) <;> omega
def mK (y m d:Int):Bool:=decide (1≤y)&&decide (y≤9999)&&decide (1≤d)&&decide (d≤mlen y m)
theorem nF1 (y m d:Int):xH.f y m d=some (mK y m d,()):=by
 rw[xH.f_eq,rG.f_eq];unfold mK;by_cases h1:1≤y
 ·have hL:=sG y m (by omega);by_cases h2:y≤9999
  ·by_cases h3:1≤d
   ·simp(disch:=omega)only[ss,hL,ge_iff_le]
   ·simp(disch:=omega)only[ss,hL,ge_iff_le]
  ·simp(disch:=omega)only[ss,ge_iff_le]
 ·simp(disch:=omega)only[ss,ge_iff_le]
theorem yO (y m d:Int) (hy:1≤y) (hy2:y≤10000) (hm:1≤m) (hm2:m≤12) (hd:1≤d) (hd2:d≤31):xC.f y m d=some (fst_ y+d-1+cum y m,()):=by
 rw[xC.f_eq];by_cases h3:m<3
 ·simp(disch:=omega)only[ss,tdn (show 0≤y-1+400 by omega),tdn (show 0≤153*(m+12-3)+2 by omega)]
  congr 2
  unfold fst_ cum cumT;have:m=1∨m=2:=by omega
  rcases this with rfl | rfl
  ·simp;omega
  ·simp;omega
 ·simp(disch:=omega)only[ss,tdn (show 0≤y+400 by omega),tdn (show 0≤153*(m-3)+2 by omega)]
  congr 2
  unfold fst_ cum cumT
  have e:(if 3≤m∧eP y=true then(1:Int)else 0)=y/4-(y-1)/4-(y/100-(y-1)/100)+(y/400-(y-1)/400):=by
   unfold eP;by_cases h1:y%4=0
   ·by_cases h2:y%100=0
    ·by_cases h5:y%400=0
     ·rw[if_pos ⟨by omega,by simp[h1,h2,h5]⟩];omega
     ·rw[if_neg (by simp[h1,h2,h5])];omega
    ·rw[if_pos ⟨by omega,by simp[h1,h2]⟩];omega
   ·rw[if_neg (by simp[h1])];omega
  rw[e];have:m=3∨m=4∨m=5∨m=6∨m=7∨m=8∨m=9∨m=10∨m=11∨m=12:=by omega
  rcases this with rfl | rfl | rfl | rfl | rfl | rfl | rfl | rfl | rfl | rfl
  all_goals (simp;omega)
theorem rU (y:Int) (hy:1≤y) (hy2:y≤10001): -1000000≤fst_ y∧fst_ y≤4000000:=by unfold fst_;omega
theorem iZ (y m d:Int):yF.f y m d=some (if mK y m d=true then(fst_ y+d-1+cum y m,0,())else(0,1,())):=by
 have h1:=nF1 y m d;rw[yF.f_eq,h1]
 cases hv:mK y m d with
 | false=>rfl
 | true=>
  unfold mK at hv;simp only[oW1,decide_eq_true_eq]at hv;obtain⟨⟨⟨h3,h4⟩,h5⟩,h6⟩:=hv;have hb:=kK y m;have hm:=hb.2.2 (by omega);have hN:=yO y m d h3 (by omega) hm.1 hm.2 h5 (by omega);have hfb:=rU y h3 (by omega);have hcb:=jL y m;rw[if_pos rfl];simp(disch:=omega)only[ss,hN]
theorem aG (y:Int) (hy:1≤y):fst_ (y+1)=fst_ y+cum y 13:=by
 unfold fst_ cum cumT
 have e:(if 3≤(13:Int)∧eP y=true then(1:Int)else 0)=y/4-(y-1)/4-(y/100-(y-1)/100)+(y/400-(y-1)/400):=by
  unfold eP;by_cases h1:y%4=0
  ·by_cases h2:y%100=0
   ·by_cases h5:y%400=0
    ·rw[if_pos ⟨by omega,by simp[h1,h2,h5]⟩];omega
    ·rw[if_neg (by simp[h1,h2,h5])];omega
   ·rw[if_pos ⟨by omega,by simp[h1,h2]⟩];omega
  ·rw[if_neg (by simp[h1])];omega
 rw[e];simp;omega
theorem nE1 (y:Int):365≤cum y 13∧cum y 13≤366:=by unfold cum cumT;split <;> (simp;try omega)
theorem vN1 {a b:Int} (h0:1≤a) (h:a<b):fst_ a+365≤fst_ b:=by
 obtain⟨k,hk⟩:=Int.eq_ofNat_of_zero_le (show 0≤b-a-1 by omega);have e:b=a+1+(k:Int):=by omega
 subst e;clear hk h
 induction k with
 | zero=>
  have:=aG a h0;have:=nE1 a;simp;omega
 | succ k ih=>
  have:=aG (a+1+(k:Int)) (by omega);have:=nE1 (a+1+(k:Int));rw[show a+1+((k+1:Nat):Int)=a+1+(k:Int)+1 by omega];omega
theorem vD {a b:Int} (h0:1≤a) (h:a≤b):fst_ a≤fst_ b:=by
 rcases Int.lt_or_eq_of_le h with h | h
 ·have:=vN1 h0 h;omega
 ·rw[h];exact Int.le_refl _
theorem tE1 :fst_ 1 = -719162:=by decide
theorem uH :fst_ 10000=2932897:=by decide
theorem qA1 (y:Int):cum y 1=0:=by unfold cum cumT;simp
theorem xK (y:Int) {a b:Int} (h0:1≤a) (h:a≤b) (h1:b≤13):cum y a≤cum y b:=by
 obtain⟨k,hk⟩:=Int.eq_ofNat_of_zero_le (show 0≤b-a by omega);have e:b=a+(k:Int):=by omega
 subst e;clear hk h
 induction k with
 | zero=>simp
 | succ k ih=>
  have:=ih (by omega);have h2:=nE y (a+(k:Int)) (by omega) (by omega);have:=kK y (a+(k:Int));rw[show a+((k+1:Nat):Int)=a+(k:Int)+1 by omega,h2];omega
theorem mP1 (n:Int) (h1: -719162≤n) (h2:n≤2932896):∃y,1≤y∧y≤9999∧fst_ y≤n∧n<fst_ (y+1):=by
 have key:∀k:Nat,k≤9999→n<fst_ (1+(k:Int)) → ∃y,1≤y∧y≤9999∧fst_ y≤n∧n<fst_ (y+1):=by
  intro k
  induction k with
  | zero=>
   intro _ h;rw[show(1:Int)+((0:Nat):Int)=1 from rfl,tE1]at h;omega
  | succ k ih=>
   intro hk h;by_cases c:n<fst_ (1+(k:Int))
   ·exact ih (by omega) c
   ·exact⟨1+(k:Int),by omega,by omega,by omega,by rw[show(1:Int)+(k:Int)+1=1+((k+1:Nat):Int) by omega];exact h⟩
 refine key 9999 (wW1 _) ?_;rw[show(1:Int)+((9999:Nat):Int)=10000 from rfl,uH];omega
theorem dM1 (y d:Int) (h1:0≤d) (h2:d<cum y 13):∃m,1≤m∧m≤12∧cum y m≤d∧d<cum y (m+1):=by
 have key:∀k:Nat,k≤12→d<cum y (1+(k:Int)) → ∃m,1≤m∧m≤12∧cum y m≤d∧d<cum y (m+1):=by
  intro k
  induction k with
  | zero=>
   intro _ h;rw[show(1:Int)+((0:Nat):Int)=1 from rfl,qA1]at h;omega
  | succ k ih=>
   intro hk h;by_cases c:d<cum y (1+(k:Int))
   ·exact ih (by omega) c
   ·exact⟨1+(k:Int),by omega,by omega,by omega,by rw[show(1:Int)+(k:Int)+1=1+((k+1:Nat):Int) by omega];exact h⟩
 exact key 12 (wW1 _) h2
def vH (n y m d:Int):Prop:=mK y m d=true∧fst_ y+d-1+cum y m=n
theorem lC {y m d:Int}:mK y m d=true↔1≤y∧y≤9999∧1≤d∧d≤mlen y m:=by unfold mK;simp only[oW1,decide_eq_true_eq,and_assoc]
theorem gF {n y m d:Int} (h:vH n y m d):fst_ y≤n∧n<fst_ (y+1)∧1≤m∧m≤12 ∧ -719162≤n∧n≤2932896:=by obtain⟨h1,h2⟩:=h;obtain⟨h3,h4,h5,h6⟩:=lC.1 h1;have hm:=(kK y m).2.2 (by omega);have hc:=nE y m hm.1 hm.2;have hb:=jL y m;have hs:=aG y h3;have hmo:=xK y (a:=m+1) (b:=13) (by omega) (by omega) (by omega);have h7:=vD (a:=1) (b:=y) (by omega) h3;have h8:=vD (a:=y+1) (b:=10000) (by omega) (by omega);rw[tE1]at h7;rw[uH]at h8;exact⟨by omega,by omega,hm.1,hm.2,by omega,by omega⟩
theorem cU1 (y d0 M:Int) (hy:1≤y) (hy2:y≤9999) (h1:0≤d0) (h2:M≤12) (h3:cum y M≤d0) (h4:d0<cum y (M+1)):∀(k:Nat) (m:Int),M-m=k→1≤m →
  uA.l5 y (d0-cum y m) m=some (y,M,d0-cum y M+1,0,())∧True:=by
 intro k
 induction k with
 | zero=>
  intro m hk hm;have e:m=M:=by omega
  subst e;have hc:=nE y m hm h2;have hb:=jL y m;have hb2:=jL y (m+1);rw[uA.l5_eq,sG y m (by omega)];refine⟨?_,trivial⟩;simp(disch:=omega)only[ss,ge_iff_le]
 | succ k ih=>
  intro m hk hm;have hc:=nE y m hm (by omega);have hmo:=xK y (a:=m+1) (b:=M) (by omega) (by omega) (by omega);have hb:=jL y m;have hb1:=jL y M;have hb2:=jL y (m+1);have hb3:=jL y (M+1);rw[uA.l5_eq,sG y m (by omega)];have e:d0-cum y m-mlen y m=d0-cum y (m+1):=by omega
  refine⟨?_,trivial⟩;simp(disch:=omega)only[ss,ge_iff_le];rw[e];exact(ih (m+1) (by omega) (by omega)).1
theorem hO1 (y:Int) (hy:1≤y) (hy2:y≤10000):xC.f y 1 1=some (fst_ y,()):=by
 rw[yO y 1 1 hy hy2 (by omega) (by omega) (by omega) (by omega),qA1]
 congr 2
 omega
theorem xT1 (n Y:Int) (hY:1≤Y) (h1:fst_ Y≤n) (h2:n<fst_ (Y+1)):∀(k:Nat) (z:Int),z-Y=k→z≤9999→uA.l4 n z=uA.l5 Y (n-fst_ Y) 1:=by
 intro k;have hfb:=rU (Y+1) (by omega)
 induction k with
 | zero=>
  intro z hk hz;have e:z=Y:=by omega
  subst e;have hfb:=rU z (by omega) (by omega);have hfb1:=rU (z+1) (by omega) (by omega);rw[uA.l4_eq,hO1 z (by omega) (by omega)];simp(disch:=omega)only[ss,gt_iff_lt]
 | succ k ih=>
  intro z hk hz;have hm:=vD (a:=Y+1) (b:=z) (by omega) (by omega);have hfb:=rU z (by omega) (by omega);rw[uA.l4_eq,hO1 z (by omega) (by omega)];simp(disch:=omega)only[ss,gt_iff_lt];exact ih (z-1) (by omega) (by omega)
theorem jT1 (n Y:Int) (hY:1≤Y) (hY2:Y≤9999) (h1:fst_ Y≤n) (h2:n<fst_ (Y+1)):∀(k:Nat) (y:Int),(Y-y).toNat=k→1≤y→y≤9999 → ∃z,Y≤z∧z≤9999∧uA.l1 n y=uA.l4 n z:=by
 intro k
 induction k with
 | zero=>
  intro y hk hy hy2;refine⟨y,by omega,hy2,?_⟩;rw[uA.l1_eq];by_cases c:y<9999
  ·have hm:=vD (a:=Y+1) (b:=y+1) (by omega) (by omega);have hw:w6 (y+1)=y+1:=wr (by omega) (by omega);rw[hw,hO1 (y+1) (by omega) (by omega)];simp(disch:=omega)only[ss,uA.l2_eq,uA.l3_eq]
  ·simp(disch:=omega)only[ss,uA.l2_eq,uA.l3_eq]
 | succ k ih=>
  intro y hk hy hy2;have hm:=vD (a:=y+1) (b:=Y) (by omega) (by omega);have hw:w6 (y+1)=y+1:=wr (by omega) (by omega);obtain⟨z,z1,z2,z3⟩:=ih (y+1) (by omega) (by omega) (by omega);refine⟨z,z1,z2,?_⟩;rw[uA.l1_eq,hw,hO1 (y+1) (by omega) (by omega)];simp(disch:=omega)only[ss,uA.l2_eq];exact z3
theorem xJ (n:Int) (h1: -719162≤n) (h2:n≤2932896):∃y m d,vH n y m d∧uA.f n=some (y,m,d,0,())∧True:=by
 obtain⟨Y,y1,y2,y3,y4⟩:=mP1 n h1 h2;have hs:=aG Y y1;obtain⟨M,m1,m2,m3,m4⟩:=dM1 Y (n-fst_ Y) (by omega) (by omega);have hc:=nE Y M m1 m2;have h5:=cU1 Y (n-fst_ Y) M y1 y2 (by omega) m2 m3 m4 (M-1).toNat 1 (by omega) (by omega);rw[qA1,Int.sub_zero]at h5;refine⟨Y,M,n-fst_ Y-cum Y M+1,⟨lC.2 ⟨y1,y2,by omega,by omega⟩,by omega⟩,?_,?_⟩
 ·have hz1:(n+719162)*400/146097+1≤9999:=by omega
  obtain⟨z,z1,z2,z3⟩:=jT1 n Y y1 y2 y3 y4 _ ((n+719162)*400/146097+1) rfl (by omega) hz1;have h4:=xT1 n Y y1 y3 y4 (z-Y).toNat z (by omega) z2;rw[uA.f_eq,bK.f_eq];have e1:w6 (n - -719162)=n+719162:=by rw[wr (by omega) (by omega)];omega
  have e2:w6 ((n+719162)*400)=(n+719162)*400:=wr (by omega) (by omega);simp(disch:=omega)only[ss,e1,e2,tdn (show 0≤(n+719162)*400 by omega),ge_iff_le];rw[z3,h4];exact h5.1
 ·trivial
theorem iK1 (n:Int) (h:¬(-719162≤n∧n≤2932896)):uA.f n=some (0,0,0,1,())∧True:=by
 rw[uA.f_eq,bK.f_eq];refine⟨?_,trivial⟩;by_cases c: -719162≤n
 ·simp(disch:=omega)only[ss,ge_iff_le]
 ·simp(disch:=omega)only[ss,ge_iff_le]
theorem qQ {n y m d y' m' d':Int} (h:vH n y m d) (g:vH n y' m' d'):y=y'∧m=m'∧d=d':=by
 obtain⟨h1,h2,h3,h4,_⟩:=gF h;obtain⟨g1,g2,g3,g4,_⟩:=gF g;obtain⟨a1,a2,a3,a4⟩:=lC.1 h.1;obtain⟨b1,b2,b3,b4⟩:=lC.1 g.1;have e:y=y':=by
  rcases Int.lt_trichotomy y y' with c | c | c
  ·have:=vD (a:=y+1) (b:=y') (by omega) (by omega);omega
  ·exact c
  ·have:=vD (a:=y'+1) (b:=y) (by omega) (by omega);omega
 subst e;have hh:=h.2;have hg:=g.2;have c1:=nE y m h3 h4;have c2:=nE y m' g3 g4;have em:m=m':=by
  rcases Int.lt_trichotomy m m' with c | c | c
  ·have:=xK y (a:=m+1) (b:=m') (by omega) (by omega) (by omega);omega
  ·exact c
  ·have:=xK y (a:=m'+1) (b:=m) (by omega) (by omega) (by omega);omega
 subst em;exact⟨rfl,rfl,by omega⟩
theorem tdm (t k:Int) (hk:0<k):Int.tdiv t k=(if t%k≠0∧t<0 then t/k+1 else t/k)∧Int.tmod t k=(if t%k≠0∧t<0 then t%k-k else t%k):=by
 by_cases h:0≤t
 ·rw[if_neg (by omega),if_neg (by omega)];exact⟨tdn h k,tmn h k⟩
 ·have e:t = -(-t):=by omega
  have h1:Int.tdiv t k = -((-t)/k):=by rw[e,Int.neg_tdiv,tdn (by omega),Int.neg_neg]
  have h2:Int.tmod t k = -((-t)%k):=by rw[e,Int.neg_tmod,tmn (by omega),Int.neg_neg]
  have h3:=Int.emod_add_mul_ediv t k;have h4:=Int.emod_add_mul_ediv (-t) k;have b1:=Int.emod_nonneg t (show k≠0 by omega);have b2:=Int.emod_lt_of_pos t hk;have b3:=Int.emod_nonneg (-t) (show k≠0 by omega);have b4:=Int.emod_lt_of_pos (-t) hk;rw[h1,h2];by_cases hz:t%k=0
  ·rw[if_neg (by omega),if_neg (by omega)];have hz2:(-t)%k=0:=by have:k∣t:=Int.dvd_of_emod_eq_zero hz;exact Int.emod_eq_zero_of_dvd (Int.dvd_neg.2 this)
   have:(-t)/k = -(t/k):=Int.neg_ediv_of_dvd (Int.dvd_of_emod_eq_zero hz);exact⟨by omega,by omega⟩
  ·rw[if_pos ⟨hz,by omega⟩,if_pos ⟨hz,by omega⟩];have hq:(-t)%k=k-t%k:=by
    have e1: -t=(k-t%k)+k*(-(t/k)-1):=by rw[Int.mul_sub,Int.mul_neg];omega
    rw[e1,Int.add_mul_emod_self_left,Int.emod_eq_of_lt (by omega) (by omega)]
   have hd:(-t)/k = -(t/k)-1:=by
    have:k*((-t)/k)=k*(-(t/k)-1):=by rw[Int.mul_sub,Int.mul_neg];omega
    exact Int.eq_of_mul_eq_mul_left (by omega) this
   exact⟨by omega,by omega⟩
theorem fG (t:Int) (h1: -9000000000000000000≤t) (h2:t≤9000000000000000000):iE.f t=some (t/86400,t%86400,())∧zH.f t=some (t/86400,t%86400,()):=by
 obtain⟨e1,e2⟩:=tdm t 86400 (by omega);rw[iE.f_eq,zH.f_eq,eI.f_eq,e1,e2];by_cases c:t%86400≠0∧t<0
 ·rw[if_pos c,if_pos c];have q1:t/86400+1-1=t/86400:=by omega
  have q2:t%86400-86400+86400=t%86400:=by omega
  simp(disch:=omega)only[ss,q1,q2];exact⟨trivial,trivial⟩
 ·rw[if_neg c,if_neg c];simp(disch:=omega)only[ss];exact⟨trivial,trivial⟩
theorem cS (t:Int):wF.f t=some (decide (-62135596800≤t∧t≤253402300799),())∧zE.f t=some (decide (-62135596800≤t∧t≤253402300799),()):=by
 rw[wF.f_eq,zE.f_eq];by_cases c: -62135596800≤t
 ·by_cases c2:t≤253402300799
  ·simp(disch:=omega)only[ss,ge_iff_le];exact⟨trivial,trivial⟩
  ·simp(disch:=omega)only[ss,ge_iff_le];exact⟨trivial,trivial⟩
 ·simp(disch:=omega)only[ss,ge_iff_le];exact⟨trivial,trivial⟩
def wk (n:Int):Int:=(n+3)%7
theorem mN1 (n:Int):0≤wk n∧wk n≤6:=by unfold wk;omega
theorem zG (n:Int):jE.f n=some (wk n,()):=by
 obtain⟨_,e⟩:=tdm n 7 (by omega);rw[jE.f_eq,e];unfold wk;by_cases c:n%7≠0∧n<0
 ·rw[if_pos c];simp(disch:=omega)only[ss,tmn (show(0:Int)≤n%7-7+7+3 by omega)]
  congr 2
  omega
 ·rw[if_neg c];simp(disch:=omega)only[ss,tmn (show(0:Int)≤n%7+7+3 by omega)]
  congr 2
  omega
theorem numJ (y:Int) (hy:0≤y) (hy2:y≤10001):xC.f y 1 1=some (fst_ y,()):=by
 rw[xC.f_eq];simp(disch:=omega)only[ss,tdn (show 0≤y-1+400 by omega),tdn (show(0:Int)≤153*(1+12-3)+2 by omega)]
 congr 2
 unfold fst_;omega
def w1 (y w:Int):Int:=fst_ y+3-(fst_ y+6-w)%7
theorem nI (y:Int) (hy:0≤y) (hy2:y≤10001): -1000000≤fst_ y∧fst_ y≤4000000:=by unfold fst_;omega
theorem wJ (y w:Int) (hy:0≤y) (hy2:y≤10001) (hw:0≤w) (hw2:w≤6):aF.f y w=some (w1 y w,()):=by
 have hb:=nI y hy hy2;have hk:=mN1 (fst_ y);rw[aF.f_eq,numJ y hy hy2];simp only[nW1];rw[zG];simp(disch:=omega)only[ss,tmn (show(0:Int)≤wk (fst_ y)-w+7 by omega)];unfold w1;by_cases c:(wk (fst_ y)-w+7)%7≤3
 ·simp(disch:=omega)only[ss]
  congr 2
  unfold wk at *;omega
 ·simp(disch:=omega)only[ss]
  congr 2
  unfold wk at *;omega
theorem bJ (y:Int) (hy:0≤y):365≤fst_ (y+1)-fst_ y∧fst_ (y+1)-fst_ y≤366:=by
 by_cases c:1≤y
 ·have:=aG y c;have:=nE1 y;omega
 ·have:y=0:=by omega
  subst this;decide
theorem yJ (y w:Int) (hy:0≤y):w1 (y+1) w=w1 y w+364∨w1 (y+1) w=w1 y w+371:=by have:=bJ y hy;unfold w1;omega
theorem tH (y w:Int):fst_ y-3≤w1 y w∧w1 y w≤fst_ y+3∧(w1 y w+3-w)%7=0:=by unfold w1;omega
def rT (n w y k:Int):Prop:=w1 y w≤n∧n<w1 (y+1) w∧k=(n-w1 y w)/7+1
theorem yA1 {a b w:Int} (h0:0≤a) (h:a≤b):w1 a w≤w1 b w:=by
 obtain⟨k,hk⟩:=Int.eq_ofNat_of_zero_le (show 0≤b-a by omega);have e:b=a+(k:Int):=by omega
 subst e;clear hk h
 induction k with
 | zero=>simp
 | succ k ih=>
  have:=yJ (a+(k:Int)) w (by omega);rw[show a+((k+1:Nat):Int)=a+(k:Int)+1 by omega];omega
theorem mM {n w y k y' k':Int} (h0:0≤y) (h1:0≤y') (h:rT n w y k) (g:rT n w y' k'):y=y'∧k=k':=by
 obtain⟨a1,a2,a3⟩:=h;obtain⟨b1,b2,b3⟩:=g;have e:y=y':=by
  rcases Int.lt_trichotomy y y' with c | c | c
  ·have:=yA1 (a:=y+1) (b:=y') (w:=w) (by omega) (by omega);omega
  ·exact c
  ·have:=yA1 (a:=y'+1) (b:=y) (w:=w) (by omega) (by omega);omega
 subst e;exact⟨rfl,by omega⟩
theorem fY (w:Int):gH.f w=some (decide (0≤w∧w≤6),()):=by
 rw[gH.f_eq];by_cases c:0≤w
 ·by_cases c2:w≤6
  ·simp(disch:=omega)only[ss,ge_iff_le]
  ·simp(disch:=omega)only[ss,ge_iff_le]
 ·simp(disch:=omega)only[ss,ge_iff_le]
theorem wA1 (n w Y:Int) (hY:0≤Y) (hY2:Y≤10001) (hw:0≤w) (hw2:w≤6) (h1:w1 Y w≤n) (h2:n≤4000000) (e:Int):jC.l2 n w Y=some (Y,(n-w1 Y w)/7+1,0,())∧True:=by have c:=wJ Y w hY hY2 hw hw2;have f:=nI Y hY hY2;have g:=tH Y w;rw[jC.l2_eq,c];refine⟨?_,trivial⟩;simp(disch:=omega)only[ss,tdn (show(0:Int)≤n-w1 Y w by omega)]
theorem wQ1 (n w Y:Int) (hY:1≤Y) (hY2:Y≤9999) (hw:0≤w) (hw2:w≤6) (q1:fst_ Y≤n) (q2:n<fst_ (Y+1)):∃y k,rT n w y k∧0≤y∧y≤10000∧1≤k∧k≤53∧jC.l1 n w Y false=some (y,k,0,())∧True:=by
 have f2:=nI (Y+1) (by omega) (by omega);have n0:=tH (Y-1) w;have n1:=tH Y w;have n2:=tH (Y+1) w;have n3:=tH (Y+2) w;have s0:=yJ (Y-1) w (by omega);have s1:=yJ Y w (by omega);have s2:=yJ (Y+1) w (by omega);have p0:=bJ (Y-1) (by omega);rw[show Y-1+1=Y by omega]at s0 p0;rw[show Y+1+1=Y+2 by omega]at s2;have c1:=wJ Y w (by omega) (by omega) hw hw2;have c2:=wJ (Y+1) w (by omega) (by omega) hw hw2;have wp:w6 (Y+1)=Y+1:=wr (by omega) (by omega);have wm:w6 (Y-1)=Y-1:=wr (by omega) (by omega);rw[jC.l1_eq,cond_false,wp,wm,c1,c2];simp only[nW1];by_cases cl:n<w1 Y w
 ·have hn:¬n≥w1 (Y+1) w:=by omega
  have h:=wA1 n w (Y-1) (by omega) (by omega) hw hw2 (by omega) (by omega) 0;refine⟨Y-1,(n-w1 (Y-1) w)/7+1,⟨by omega,by rw[show Y-1+1=Y by omega];exact cl,rfl⟩,by omega,by omega,by omega,by omega,?_,?_⟩
  ·rw[dp cl,cond_true];exact h.1
  ·trivial
 ·by_cases cu:n≥w1 (Y+1) w
  ·have h:=wA1 n w (Y+1) (by omega) (by omega) hw hw2 (by omega) (by omega) 0;refine⟨Y+1,(n-w1 (Y+1) w)/7+1,⟨by omega,by rw[show Y+1+1=Y+2 by omega];omega,rfl⟩,by omega,by omega,by omega,by omega,?_,?_⟩
   ·rw[dn cl,dp cu,cond_true,cond_false];exact h.1
   ·trivial
  ·have h:=wA1 n w Y (by omega) (by omega) hw hw2 (by omega) (by omega) 0;refine⟨Y,(n-w1 Y w)/7+1,⟨by omega,by omega,rfl⟩,by omega,by omega,by omega,by omega,?_,?_⟩
   ·rw[dn cl,dn cu,cond_false,cond_false];exact h.1
   ·trivial
theorem nR (n w:Int) (h1: -719162≤n) (h2:n≤2932896) (hw:0≤w) (hw2:w≤6):∃y k,rT n w y k∧0≤y∧y≤10000∧1≤k∧k≤53∧jC.f n w=some (y,k,0,())∧True:=by
 obtain⟨Y,m,d,hd,e1,e2⟩:=xJ n h1 h2;obtain⟨q1,q2,_⟩:=gF hd;obtain⟨v1,v2,_⟩:=lC.1 hd.1;obtain⟨y,k,g1,g2,g3,g4,g5,g6,g7⟩:=wQ1 n w Y v1 v2 hw hw2 q1 q2;refine⟨y,k,g1,g2,g3,g4,g5,?_,?_⟩
 ·rw[jC.f_eq,e1];simp only[nW1];rw[fY,dp (show 0≤w∧w≤6 from⟨hw,hw2⟩)];exact g6
 ·trivial
theorem jY (y:Int):rG.f y=some (decide (1≤y∧y≤9999),()):=by
 rw[rG.f_eq];by_cases c:1≤y
 ·by_cases c2:y≤9999
  ·simp(disch:=omega)only[ss,ge_iff_le]
  ·simp(disch:=omega)only[ss,ge_iff_le]
 ·simp(disch:=omega)only[ss,ge_iff_le]
def wks (y w:Int):Int:=(w1 (y+1) w-w1 y w)/7
theorem gU1 (y w:Int) (hy:0≤y):(wks y w=52∨wks y w=53)∧w1 (y+1) w=w1 y w+7*wks y w:=by have:=yJ y w hy;unfold wks;omega
theorem rE1 (y w:Int):wH.f y w=some (if(1≤y∧y≤9999)∧0≤w∧w≤6 then(wks y w,0,())else(0,1,())):=by
 rw[wH.f_eq,jY];by_cases c:1≤y∧y≤9999
 ·rw[dp c];simp only[nW1];rw[fY];by_cases c2:0≤w∧w≤6
  ·rw[dp c2,if_pos ⟨c,c2⟩];have h1:=wJ (y+1) w (by omega) (by omega) c2.1 c2.2;have h2:=wJ y w (by omega) (by omega) c2.1 c2.2;have f1:=tH (y+1) w;have f2:=tH y w;have f3:=nI y (by omega) (by omega);have f4:=nI (y+1) (by omega) (by omega);have s:=yJ y w (by omega);have wp:w6 (y+1)=y+1:=wr (by omega) (by omega);rw[wp,h1,h2];unfold wks;simp(disch:=omega)only[ss,tdn (show(0:Int)≤w1 (y+1) w-w1 y w by omega)]
  ·rw[dn c2,if_neg fun q=>c2 q.2];simp(disch:=omega)only[ss]
 ·rw[dn c,if_neg fun q=>c q.1];simp(disch:=omega)only[ss]
theorem tO (n y m d:Int) (h:vH n y m d) (e:uA.f n=some (y,m,d,0,())):nF.f n=some (y,n-fst_ y+1,0,()):=by obtain⟨q1,q2,q3,q4,q5,q6⟩:=gF h;obtain⟨v1,v2,_⟩:=lC.1 h.1;have f:=nI y (by omega) (by omega);rw[nF.f_eq,e];simp(disch:=omega)only[ss,numJ y (by omega) (by omega)]
abbrev Dy :=Int×Int×Unit
def dyLt (a b:Dy):Prop:=a.1<b.1∨a.1=b.1∧a.2.1<b.2.1
def aD (f:Option (Bool×Unit)) (p:Prop):Prop:=∃b,f=some (b,())∧(b=true↔p)
theorem aD.iff {f:Option (Bool×Unit)} {p q:Prop} (h:aD f p) (e:p↔q):aD f q:=by obtain⟨b,h1,h2⟩:=h;exact⟨b,h1,h2.trans e⟩
theorem aD.eq {f g:Option (Bool×Unit)} {p:Prop} (h:aD f p) (k:aD g p):f=g:=by
 obtain⟨b,h1,h2⟩:=h;obtain⟨c,k1,k2⟩:=k;have:b=c:=by cases b <;> cases c <;> simp at h2 k2 <;> first | rfl | exact absurd k2 h2 | exact absurd h2 k2
 rw[h1,k1,this]
def okI (l:List Int) (lo hi:Int) (z:Bool) (j:Nat):Prop:=lo≤l.getD j 0∧l.getD j 0≤hi∧(l.getD j 0=0→z=true)
def adjI (l:List Int) (j:Nat):Prop:=0<j→l.getD (j-1) 0<l.getD j 0
theorem qK1 (l:List Int) (lo hi:Int) (z:Bool) (hl:l.length≤1000000):∀(k i:Nat),l.length-i=k→i≤l.length →
  aD (fB.l1 l lo hi z l l.length i) ((∀j,i≤j→j<l.length→okI l lo hi z j∧adjI l j)∧l.length≤60):=by
 intro k
 induction k with
 | zero=>
  intro i hk hil;rw[fB.l1_eq];simp(disch:=omega)only[ss];refine⟨_,rfl,?_⟩;rw[decide_eq_true_eq];exact⟨fun h=>⟨fun j h1 h2=>by omega,by omega⟩,fun h=>by omega⟩
 | succ k ih=>
  intro i hk hil;have hlt:i<l.length:=by omega
  have step:okI l lo hi z i∧adjI l i→aD (fB.l2 l lo hi z l l.length i false) ((∀j,i≤j→j<l.length→okI l lo hi z j∧adjI l j)∧l.length≤60):=fun h=>by
   rw[fB.l2_eq];simp(disch:=omega)only[ss];refine(ih (i+1) (by omega) (by omega)).iff ⟨fun q=>⟨fun j h1 h2=>?_,q.2⟩,fun q=>⟨fun j h1 h2=>q.1 j (by omega) h2,q.2⟩⟩;by_cases e:j=i
   ·subst e;exact h
   ·exact q.1 j (by omega) h2
  have stop:¬(okI l lo hi z i∧adjI l i)→aD (fB.l2 l lo hi z l l.length i true) ((∀j,i≤j→j<l.length→okI l lo hi z j∧adjI l j)∧l.length≤60):=fun h=>by rw[fB.l2_eq,cond_true];exact⟨false,rfl,by simp;intro q;exact absurd (q i (wW1 _) hlt) h⟩
  have last:okI l lo hi z i→aD (bif decide ((i:Int)>0)then(bif decide (0≤(i:Int)-1)then(fB.l2 l lo hi z l l.length i (decide (l.getD i 0≤l.getD (i-1) 0)))else none)else(fB.l2 l lo hi z l l.length i false)) ((∀j,i≤j→j<l.length→okI l lo hi z j∧adjI l j)∧l.length≤60):=fun h=>by
   by_cases h0:i=0
   ·simp(disch:=omega)only[ss];exact step ⟨h,fun q=>by omega⟩
   ·simp(disch:=omega)only[ss];by_cases c:l.getD i 0≤l.getD (i-1) 0
    ·rw[dp c];exact stop fun q=>by have:=q.2 (by omega);omega
    ·rw[dn c];exact step ⟨h,fun _=>by omega⟩
  rw[fB.l1_eq];simp(disch:=omega)only[ss];by_cases c1:l.getD i 0<lo
  ·rw[dp c1,cond_true];exact stop fun q=>by have:=q.1.1;omega
  ·by_cases c2:l.getD i 0>hi
   ·rw[dn c1,dp c2,cond_false,cond_true];exact stop fun q=>by have:=q.1.2.1;omega
   ·rw[dn c1,dn c2,cond_false,cond_false];by_cases c3:l.getD i 0=0
    ·rw[dp c3,cond_true]
     cases z with
     | false=>
      exact stop fun q=>by have:=q.1.2.2 c3;cases this
     | true=>exact last ⟨by omega,by omega,fun _=>rfl⟩
    ·rw[dn c3,cond_false];exact last ⟨by omega,by omega,fun q=>absurd q c3⟩
def wi (l:List Int) (lo hi:Int) (z:Bool):Prop:=(∀j,j<l.length→okI l lo hi z j∧adjI l j)∧l.length≤60
theorem jF (l:List Int) (lo hi:Int) (z:Bool) (hl:l.length≤1000000):aD (fB.f l lo hi z) (wi l lo hi z):=by have:=qK1 l lo hi z hl _ 0 rfl (uW1 _);rw[jX1]at this;rw[fB.f_eq];exact this.iff ⟨fun h=>⟨fun j h2=>h.1 j (uW1 _) h2,h.2⟩,fun h=>⟨fun j _ h2=>h.1 j h2,h.2⟩⟩
theorem bI1 (l:List Int) (hl:l.length≤1000000):∀(k i:Nat),l.length-i=k→0<i→aD (yC.l1 l i) (∀j,i≤j→j<l.length→adjI l j):=by
 intro k
 induction k with
 | zero=>
  intro i hk hil;rw[yC.l1_eq];by_cases hlt:i<l.length
  ·omega
  ·simp(disch:=omega)only[ss];exact⟨true,rfl,by simp;intro j h1 h2;omega⟩
 | succ k ih=>
  intro i hk hil;have hlt:i<l.length:=by omega
  have w1:w6 ((i:Int)-1)=((i-1:Nat):Int):=eX (by omega) (by omega);rw[yC.l1_eq];simp(disch:=omega)only[ss,w1];by_cases c:l.getD i 0≤l.getD (i-1) 0
  ·rw[dp c,cond_true];exact⟨false,rfl,by simp;exact⟨i,wW1 _,hlt,fun q=>by have:=q hil;omega⟩⟩
  ·rw[dn c,cond_false];refine(ih (i+1) (by omega) (by omega)).iff ⟨fun q j h1 h2=>?_,fun q j h1 h2=>q j (by omega) h2⟩;by_cases e:j=i
   ·subst e;intro _;omega
   ·exact q j (by omega) h2
theorem gC1 (l:List Int) (hl:l.length≤1000000):aD (yC.f l) (∀j,j<l.length→adjI l j):=by have:=bI1 l hl _ 1 rfl (by omega);rw[yC.f_eq];exact this.iff ⟨fun h j h2 h0=>h j (by omega) h2 h0,fun h j _ h2=>h j h2⟩
theorem iF1 (l:List Int) (lo hi:Int) (z:Bool) (hl:l.length≤1000000):∀(k i:Nat),l.length-i=k→i≤l.length →
  aD (aB.l1 l lo hi z i) ((∀j,i≤j→j<l.length→okI l lo hi z j)∧(∀j,j<l.length→adjI l j)∧l.length≤60):=by
 intro k
 induction k with
 | zero=>
  intro i hk hil;rw[aB.l1_eq];simp(disch:=omega)only[ss];by_cases c:(l.length:Int)≤60
  ·obtain⟨b,h1,h2⟩:=gC1 l hl;simp(disch:=omega)only[ss,h1];exact⟨b,rfl,h2.trans ⟨fun q=>⟨fun j h3 h4=>by omega,q,by omega⟩,fun q=>q.2.1⟩⟩
  ·simp(disch:=omega)only[ss];exact⟨false,rfl,by simp;intro _ _;omega⟩
 | succ k ih=>
  intro i hk hil;have hlt:i<l.length:=by omega
  have step:okI l lo hi z i→aD (aB.l2 l lo hi z i false) ((∀j,i≤j→j<l.length→okI l lo hi z j)∧(∀j,j<l.length→adjI l j)∧l.length≤60):=fun h=>by
   rw[aB.l2_eq];simp(disch:=omega)only[ss];refine(ih (i+1) (by omega) (by omega)).iff ⟨fun q=>⟨fun j h1 h2=>?_,q.2⟩,fun q=>⟨fun j h1 h2=>q.1 j (by omega) h2,q.2⟩⟩;by_cases e:j=i
   ·subst e;exact h
   ·exact q.1 j (by omega) h2
  have stop:¬okI l lo hi z i→aD (aB.l2 l lo hi z i true) ((∀j,i≤j→j<l.length→okI l lo hi z j)∧(∀j,j<l.length→adjI l j)∧l.length≤60):=fun h=>by rw[aB.l2_eq,cond_true];exact⟨false,rfl,by simp;intro q;exact absurd (q i (wW1 _) hlt) h⟩
  rw[aB.l1_eq];simp(disch:=omega)only[ss];by_cases c1:l.getD i 0<lo
  ·rw[dp c1,cond_true];exact stop fun q=>by have:=q.1;omega
  ·by_cases c2:l.getD i 0>hi
   ·rw[dn c1,dp c2,cond_false,cond_true];exact stop fun q=>by have:=q.2.1;omega
   ·rw[dn c1,dn c2,cond_false,cond_false];by_cases c3:l.getD i 0=0
    ·rw[dp c3,cond_true]
     cases z with
     | false=>exact stop fun q=>by have:=q.2.2 c3;cases this
     | true=>exact step ⟨by omega,by omega,fun _=>rfl⟩
    ·rw[dn c3,cond_false];exact step ⟨by omega,by omega,fun q=>absurd q c3⟩
theorem vE (l:List Int) (lo hi:Int) (z:Bool) (hl:l.length≤1000000):aD (aB.f l lo hi z) (wi l lo hi z):=by have:=iF1 l lo hi z hl _ 0 rfl (uW1 _);rw[jX1]at this;rw[aB.f_eq];exact this.iff ⟨fun h=>⟨fun j h2=>⟨h.1 j (uW1 _) h2,h.2.1 j h2⟩,h.2.2⟩,fun h=>⟨fun j _ h2=>(h.1 j h2).1,fun j h2=>(h.1 j h2).2,h.2⟩⟩
def gD (l:List Dy) (j:Nat):Dy:=l.getD j ((0,0,()):Int×Int×Unit)
def okD (l:List Dy) (j:Nat):Prop:= -53≤(gD l j).1∧(gD l j).1≤53∧0≤(gD l j).2.1∧(gD l j).2.1≤6∧(0<j→dyLt (gD l (j-1)) (gD l j))
def dwi (l:List Dy):Prop:=(∀j,j<l.length→okD l j)∧l.length≤60
theorem fT1 (l:List Dy) (hl:l.length≤1000000):∀(k i:Nat),l.length-i=k→i≤l.length→aD (xA.l1 l i) ((∀j,i≤j→j<l.length→okD l j)∧l.length≤60):=by
 intro k
 induction k with
 | zero=>
  intro i hk hil;rw[xA.l1_eq];simp(disch:=omega)only[ss];refine⟨_,rfl,?_⟩;rw[decide_eq_true_eq];exact⟨fun h=>⟨fun j h1 h2=>by omega,by omega⟩,fun h=>by omega⟩
 | succ k ih=>
  intro i hk hil;have hlt:i<l.length:=by omega
  have step:okD l i→aD (xA.l2 l i false) ((∀j,i≤j→j<l.length→okD l j)∧l.length≤60):=fun h=>by
   rw[xA.l2_eq];simp(disch:=omega)only[ss];refine(ih (i+1) (by omega) (by omega)).iff ⟨fun q=>⟨fun j h1 h2=>?_,q.2⟩,fun q=>⟨fun j h1 h2=>q.1 j (by omega) h2,q.2⟩⟩;by_cases e:j=i
   ·subst e;exact h
   ·exact q.1 j (by omega) h2
  have stop:¬okD l i→aD (xA.l2 l i true) ((∀j,i≤j→j<l.length→okD l j)∧l.length≤60):=fun h=>by rw[xA.l2_eq,cond_true];exact⟨false,rfl,by simp;intro q;exact absurd (q i (wW1 _) hlt) h⟩
  have hg:l.getD i ((0,0,()):Int×Int×Unit)=gD l i:=rfl;have hg1:l.getD (i-1) ((0,0,()):Int×Int×Unit)=gD l (i-1):=rfl;rw[xA.l1_eq];simp(disch:=omega)only[ss,hg];by_cases c1:(gD l i).1 < -53
  ·rw[dp c1,cond_true];exact stop fun q=>by have:=q.1;omega
  ·by_cases c2:(gD l i).1>53
   ·rw[dn c1,dp c2,cond_false,cond_true];exact stop fun q=>by have:=q.2.1;omega
   ·by_cases c3:(gD l i).2.1<0
    ·rw[dn c1,dn c2,dp c3,cond_false,cond_false,cond_true];exact stop fun q=>by have:=q.2.2.1;omega
    ·by_cases c4:(gD l i).2.1>6
     ·rw[dn c1,dn c2,dn c3,dp c4,cond_false,cond_false,cond_false,cond_true];exact stop fun q=>by have:=q.2.2.2.1;omega
     ·rw[dn c1,dn c2,dn c3,dn c4,cond_false,cond_false,cond_false,cond_false];by_cases h0:i=0
      ·simp(disch:=omega)only[ss];exact step ⟨by omega,by omega,by omega,by omega,fun q=>by omega⟩
      ·have w1:w6 ((i:Int)-1)=((i-1:Nat):Int):=eX (by omega) (by omega);simp(disch:=omega)only[ss,w1,hg1];by_cases c5:(gD l i).1<(gD l (i-1)).1
       ·rw[dp c5,cond_true];exact stop fun q=>by have:=q.2.2.2.2 (by omega);unfold dyLt at this;omega
       ·by_cases c6:(gD l i).1=(gD l (i-1)).1
        ·rw[dn c5,dp c6,cond_false,cond_true];by_cases c7:(gD l i).2.1≤(gD l (i-1)).2.1
         ·rw[dp c7];exact stop fun q=>by have:=q.2.2.2.2 (by omega);unfold dyLt at this;omega
         ·rw[dn c7];exact step ⟨by omega,by omega,by omega,by omega,fun _=>by unfold dyLt;omega⟩
        ·rw[dn c5,dn c6,cond_false,cond_false];exact step ⟨by omega,by omega,by omega,by omega,fun _=>by unfold dyLt;omega⟩
theorem fE1 (l:List Dy) (hl:l.length≤1000000):aD (xA.f l) (dwi l):=by have:=fT1 l hl _ 0 rfl (uW1 _);rw[jX1]at this;rw[xA.f_eq];exact this.iff ⟨fun h=>⟨fun j h2=>h.1 j (uW1 _) h2,h.2⟩,fun h=>⟨fun j _ h2=>h.1 j h2,h.2⟩⟩
theorem bG1 (l:List Dy) (hl:l.length≤1000000):aD (dC.f l) (∃j,j<l.length∧(gD l j).1≠0):=by
 have key:∀(k i:Nat),l.length-i=k→i≤l.length→aD (dC.l1 l i) (∃j,i≤j∧j<l.length∧(gD l j).1≠0):=by
  intro k
  induction k with
  | zero=>
   intro i hk hil;rw[dC.l1_eq];simp(disch:=omega)only[ss];exact⟨false,rfl,by simp;intro j h1 h2;omega⟩
  | succ k ih=>
   intro i hk hil;have hlt:i<l.length:=by omega
   have hg:l.getD i ((0,0,()):Int×Int×Unit)=gD l i:=rfl;rw[dC.l1_eq];simp(disch:=omega)only[ss,hg];by_cases c:(gD l i).1=0
   ·rw[dp c];simp(disch:=omega)only[ss];refine(ih (i+1) (by omega) (by omega)).iff ⟨fun⟨j,h1,h2,h3⟩=>⟨j,by omega,h2,h3⟩,fun⟨j,h1,h2,h3⟩=>⟨j,?_,h2,h3⟩⟩;by_cases e:j=i
    ·subst e;exact absurd c h3
    ·omega
   ·rw[dn c];simp(disch:=omega)only[ss];exact⟨true,rfl,by simp;exact⟨i,wW1 _,hlt,c⟩⟩
 have:=key _ 0 rfl (uW1 _);rw[jX1]at this;rw[dC.f_eq];exact this.iff ⟨fun⟨j,_,h⟩=>⟨j,h⟩,fun⟨j,h⟩=>⟨j,uW1 _,h⟩⟩
abbrev Rl :=Int×Int×Int×Int×Int×Bool×List Int×List Int×List Int×List Int×List Dy×List Int×List Int×List Int×List Int×Unit
def Gate (f:Option (Bool×Unit)) (p:Prop) (K:Option (Bool×Unit)):Prop:=(p→f=K)∧(¬p→f=some (false,()))
theorem Gate.iff {f K:Option (Bool×Unit)} {p q:Prop} (h:Gate f p K) (e:p↔q):Gate f q K:=⟨fun x=>h.1 (e.2 x),fun x=>h.2 fun y=>x (e.1 y)⟩
theorem Gate.eq {f g K:Option (Bool×Unit)} {p:Prop} (h:Gate f p K) (k:Gate g p K):f=g:=by
 by_cases hp:p
 ·rw[h.1 hp,k.1 hp]
 ·rw[h.2 hp,k.2 hp]
theorem iG {f g K:Option (Bool×Unit)} {p q:Prop} (h:aD f p) (k:Gate g q K):Gate (f.bind fun t=>bif !t.1 then some (false,())else g) (p∧q) K:=by
 obtain⟨b,h1,h2⟩:=h;rw[h1];simp only[nW1]
 cases b with
 | true=>exact⟨fun x=>k.1 x.2,fun x=>k.2 fun y=>x ⟨h2.1 rfl,y⟩⟩
 | false=>exact⟨fun x=>absurd (h2.2 x.1) (by simp),fun _=>rfl⟩
theorem eF {f g:Option (Bool×Unit)} {p q:Prop} (h:aD f p) (k:aD g q):aD (f.bind fun t=>bif t.1 then g else some (false,())) (p∧q):=by
 obtain⟨b,h1,h2⟩:=h;obtain⟨c,k1,k2⟩:=k;rw[h1];simp only[nW1]
 cases b with
 | true=>rw[cond_true];exact⟨c,k1,⟨fun x=>⟨h2.1 rfl,k2.1 x⟩,fun x=>k2.2 x.2⟩⟩
 | false=>exact⟨false,rfl,⟨fun x=>by simp at x,fun x=>absurd (h2.2 x.1) (by simp)⟩⟩
theorem nT {f:Option (Bool×Unit)} {p:Prop} (h:aD f p):aD (f.bind fun t=>some (t.1,())) p:=by obtain⟨b,h1,h2⟩:=h;exact⟨b,by rw[h1];rfl,h2⟩
def numd (f:Int) (we:List Int) (l:List Dy) (j:Nat):Prop:=(gD l j).1≠0→f=2∨f=1∧we.length=0
section
variable (f iv ct un wk : Int) (en : Bool) (mo we yd md : List Int) (dy : List Dy) (ho mi se po : List Int)
theorem iL1 (hl:dy.length≤1000000) (hw:we.length≤1000000):∀(k i:Nat),dy.length-i=k→i≤dy.length→(∀j,j<i→okD dy j) →
  aD (cB.l1 dy dy.length i (f,iv,ct,un,wk,en,mo,we,yd,md,dy,ho,mi,se,po,())) ((∀j,i≤j→j<dy.length→okD dy j∧numd f we dy j)∧dy.length≤60):=by
 intro k
 induction k with
 | zero=>
  intro i hk hil hpre;rw[cB.l1_eq];simp(disch:=omega)only[ss];refine⟨_,rfl,?_⟩;rw[decide_eq_true_eq];exact⟨fun h=>⟨fun j h1 h2=>by omega,by omega⟩,fun h=>by omega⟩
 | succ k ih=>
  intro i hk hil hpre;have hlt:i<dy.length:=by omega
  have hg:dy.getD i ((0,0,()):Int×Int×Unit)=gD dy i:=rfl;have hg1:dy.getD (i-1) ((0,0,()):Int×Int×Unit)=gD dy (i-1):=rfl;have stop:¬(okD dy i∧numd f we dy i)→aD (some (false,())) ((∀j,i≤j→j<dy.length→okD dy j∧numd f we dy j)∧dy.length≤60):=fun h=>
   ⟨false,rfl,by simp;intro q;exact absurd (q i (wW1 _) hlt) h⟩
  have go:okD dy i→numd f we dy i→aD (cB.l3 dy dy.length i false (f,iv,ct,un,wk,en,mo,we,yd,md,dy,ho,mi,se,po,())) ((∀j,i≤j→j<dy.length→okD dy j∧numd f we dy j)∧dy.length≤60):=fun h h'=>by
   rw[cB.l3_eq];simp(disch:=omega)only[ss];refine(ih (i+1) (by omega) (by omega) fun j hj=>?_).iff ⟨fun q=>⟨fun j h1 h2=>?_,q.2⟩,fun q=>⟨fun j h1 h2=>q.1 j (by omega) h2,q.2⟩⟩
   ·by_cases e:j=i
    ·subst e;exact h
    ·exact hpre j (by omega)
   ·by_cases e:j=i
    ·subst e;exact⟨h,h'⟩
    ·exact q.1 j (by omega) h2
  have l3t:cB.l3 dy dy.length i true (f,iv,ct,un,wk,en,mo,we,yd,md,dy,ho,mi,se,po,())=some (false,()):=by rw[cB.l3_eq,cond_true]
  have bad:∀a b,¬okD dy i→aD (cB.l2 dy dy.length i true (f,iv,ct,un,wk,en,mo,we,yd,md,dy,ho,mi,se,po,()) (a,b,())) ((∀j,i≤j→j<dy.length→okD dy j∧numd f we dy j)∧dy.length≤60):=fun a b h=>by rw[cB.l2_eq,cond_true];exact stop fun q=>h q.1
  have good:okD dy i→aD (cB.l2 dy dy.length i false (f,iv,ct,un,wk,en,mo,we,yd,md,dy,ho,mi,se,po,()) (gD dy i)) ((∀j,i≤j→j<dy.length→okD dy j∧numd f we dy j)∧dy.length≤60):=fun h=>by
   rw[cB.l2_eq,cond_false];by_cases c1:(gD dy i).1=0
   ·simp(disch:=omega)only[ss];exact go h fun q=>absurd c1 q
   ·by_cases c2:f=2
    ·simp(disch:=omega)only[ss];exact go h fun _=>.inl c2
    ·by_cases c3:f=1
     ·by_cases c4:(we.length:Int)>0
      ·simp(disch:=omega)only[ss,l3t];exact stop fun q=>by rcases q.2 c1 with q | q <;> omega
      ·simp(disch:=omega)only[ss];exact go h fun _=>.inr ⟨c3,by omega⟩
     ·simp(disch:=omega)only[ss,l3t];exact stop fun q=>by rcases q.2 c1 with q | q <;> omega
  rw[cB.l1_eq];simp(disch:=omega)only[ss,hg];by_cases c1:(gD dy i).1 < -53
  ·rw[dp c1,cond_true];exact bad _ _ fun q=>by have:=q.1;omega
  ·by_cases c2:(gD dy i).1>53
   ·rw[dn c1,dp c2,cond_false,cond_true];exact bad _ _ fun q=>by have:=q.2.1;omega
   ·by_cases c3:(gD dy i).2.1<0
    ·rw[dn c1,dn c2,dp c3,cond_false,cond_false,cond_true];exact bad _ _ fun q=>by have:=q.2.2.1;omega
    ·by_cases c4:(gD dy i).2.1>6
     ·rw[dn c1,dn c2,dn c3,dp c4,cond_false,cond_false,cond_false,cond_true];exact bad _ _ fun q=>by have:=q.2.2.2.1;omega
     ·rw[dn c1,dn c2,dn c3,dn c4,cond_false,cond_false,cond_false,cond_false];by_cases h0:i=0
      ·simp(disch:=omega)only[ss];exact good ⟨by omega,by omega,by omega,by omega,fun q=>by omega⟩
      ·have hp:=hpre (i-1) (by omega);have b1:=hp.1;have b2:=hp.2.1;have b3:=hp.2.2.1;have b4:=hp.2.2.2.1;simp(disch:=omega)only[ss,hg1,dL.f_eq];by_cases c6:(gD dy (i-1)).1=(gD dy i).1
       ·simp(disch:=omega)only[ss];by_cases c7:(gD dy (i-1)).2.1-(gD dy i).2.1≥0
        ·rw[dp c7];exact bad _ _ fun q=>by have:=q.2.2.2.2 (by omega);unfold dyLt at this;omega
        ·rw[dn c7];exact good ⟨by omega,by omega,by omega,by omega,fun _=>by unfold dyLt;omega⟩
       ·simp(disch:=omega)only[ss];by_cases c7:(gD dy (i-1)).1-(gD dy i).1≥0
        ·rw[dp c7];exact bad _ _ fun q=>by have:=q.2.2.2.2 (by omega);unfold dyLt at this;omega
        ·rw[dn c7];exact good ⟨by omega,by omega,by omega,by omega,fun _=>by unfold dyLt;omega⟩
def dY :Prop:=wi mo 1 12 false∧wi we (-53) 53 false∧wi yd (-366) 366 false∧wi md (-31) 31 false∧wi ho 0 23 true∧wi mi 0 59 true∧wi se 0 59 true∧wi po (-366) 366 false∧(dwi dy ∧ ∀j,j<dy.length→numd f we dy j)
def vN :Prop:=mo.length≤100000∧we.length≤100000∧yd.length≤100000∧md.length≤100000∧dy.length≤100000∧ho.length≤100000∧mi.length≤100000∧se.length≤100000∧po.length≤100000
theorem yU (h:vN mo we yd md dy ho mi se po):aD (pF.f (f,iv,ct,un,wk,en,mo,we,yd,md,dy,ho,mi,se,po,())) (dY f mo we yd md dy ho mi se po):=by
 obtain⟨h1,h2,h3,h4,h5,h6,h7,h8,h9⟩:=h;have hD:=iL1 f iv ct un wk en mo we yd md dy ho mi se po (by omega) (by omega) _ 0 rfl (uW1 _) fun j hj=>by omega
 rw[jX1]at hD;have hD2:aD (cB.f (f,iv,ct,un,wk,en,mo,we,yd,md,dy,ho,mi,se,po,())) (dwi dy ∧ ∀j,j<dy.length→numd f we dy j):=by rw[cB.f_eq];exact hD.iff ⟨fun q=>⟨⟨fun j hj=>(q.1 j (uW1 _) hj).1,q.2⟩,fun j hj=>(q.1 j (uW1 _) hj).2⟩,fun q=>⟨fun j _ hj=>⟨q.1.1 j hj,q.2 j hj⟩,q.1.2⟩⟩
 rw[pF.f_eq];exact eF (jF mo 1 12 false (by omega)) (eF (jF we (-53) 53 false (by omega)) (eF (jF yd (-366) 366 false (by omega)) (eF (jF md (-31) 31 false (by omega)) (eF (jF ho 0 23 true (by omega)) (eF (jF mi 0 59 true (by omega)) (eF (jF se 0 59 true (by omega)) (eF (jF po (-366) 366 false (by omega)) (nT hD2))))))))
def numP :Prop:=(1≤f∧f≤7∧1≤iv∧iv≤1000∧0≤ct∧ct≤4096∧0≤wk∧wk≤6)∧(en=true→(-62135596800≤un∧un≤253402300799)∧ct=0)∧(en=false→un=0)
theorem jG1 :aD (oB.f (f,iv,ct,un,wk,en,mo,we,yd,md,dy,ho,mi,se,po,())) (numP f iv ct un wk en):=by
 have l1t:oB.l1 true (f,iv,ct,un,wk,en,mo,we,yd,md,dy,ho,mi,se,po,())=some (false,()):=by rw[oB.l1_eq,cond_true]
 have no:¬(1≤f∧f≤7∧1≤iv∧iv≤1000∧0≤ct∧ct≤4096∧0≤wk∧wk≤6)→aD (some (false,())) (numP f iv ct un wk en):=fun h=>⟨false,rfl,⟨fun q=>by simp at q,fun q=>absurd q.1 h⟩⟩
 rw[oB.f_eq];dsimp only;by_cases c:1≤f∧f≤7∧1≤iv∧iv≤1000∧0≤ct∧ct≤4096∧0≤wk∧wk≤6
 ·obtain⟨c1,c2,c3,c4,c5,c6,c7,c8⟩:=c;simp(disch:=omega)only[ss,oB.l1_eq,wF.f_eq]
  cases en with
  | true=>
   simp(disch:=omega)only[ss];by_cases d1:un ≥ -62135596800
   ·by_cases d2:un≤253402300799
    ·simp(disch:=omega)only[ss];refine⟨_,rfl,?_⟩;rw[decide_eq_true_eq];exact⟨fun q=>⟨⟨c1,c2,c3,c4,c5,c6,c7,c8⟩,fun _=>⟨⟨by omega,d2⟩,q⟩,fun q=>by cases q⟩,fun q=>(q.2.1 rfl).2⟩
    ·simp(disch:=omega)only[ss];exact⟨false,rfl,⟨fun q=>by simp at q,fun q=>by have:=(q.2.1 rfl).1;omega⟩⟩
   ·simp(disch:=omega)only[ss];exact⟨false,rfl,⟨fun q=>by simp at q,fun q=>by have:=(q.2.1 rfl).1;omega⟩⟩
  | false=>
   simp(disch:=omega)only[ss];refine⟨_,rfl,?_⟩;rw[decide_eq_true_eq];exact⟨fun q=>⟨⟨c1,c2,c3,c4,c5,c6,c7,c8⟩,(fun q=>by cases q),fun _=>q⟩,fun q=>q.2.2 rfl⟩
 ·have hb:∀{p:Prop} [Decidable p] {x:Option (Bool×Unit)},(¬p→aD x (numP f iv ct un wk en))→(p→aD (some (false,())) (numP f iv ct un wk en))→aD (bif decide p then(some (false,()))else x) (numP f iv ct un wk en):=fun {p} _ {x} h1 h2=>by
   by_cases hp:p
   ·rw[dp hp,cond_true];exact h2 hp
   ·rw[dn hp,cond_false];exact h1 hp
  have hn:=no c;rw[l1t];refine hb (fun d1=>hb (fun d2=>hb (fun d3=>hb (fun d4=>hb (fun d5=>hb (fun d6=>hb (fun d7=>?_) fun _=>hn) fun _=>hn) fun _=>hn) fun _=>hn) fun _=>hn) fun _=>hn) fun _=>hn
  have:wk>6:=by omega
  rw[dp this,l1t];exact hn
def mayP :Prop:=numP f iv ct un wk en∧dY f mo we yd md dy ho mi se po∧(0<we.length→f=1)∧(0<yd.length → ¬(2≤f∧f≤4))∧(0<md.length→f≠3)
theorem fX (h:vN mo we yd md dy ho mi se po):Gate (pA.f (f,iv,ct,un,wk,en,mo,we,yd,md,dy,ho,mi,se,po,())) (mayP f iv ct un wk en mo we yd md dy ho mi se po) (pA.l5 (f,iv,ct,un,wk,en,mo,we,yd,md,dy,ho,mi,se,po,())):=by
 have l1t:pA.l1 true (f,iv,ct,un,wk,en,mo,we,yd,md,dy,ho,mi,se,po,())=some (false,()):=by rw[pA.l1_eq,cond_true]
 have l2t:pA.l2 true (f,iv,ct,un,wk,en,mo,we,yd,md,dy,ho,mi,se,po,())=some (false,()):=by rw[pA.l2_eq,cond_true]
 have l3t:pA.l3 true (f,iv,ct,un,wk,en,mo,we,yd,md,dy,ho,mi,se,po,())=some (false,()):=by rw[pA.l3_eq,cond_true]
 have l4t:pA.l4 true (f,iv,ct,un,wk,en,mo,we,yd,md,dy,ho,mi,se,po,())=some (false,()):=by rw[pA.l4_eq,cond_true]
 have l4f:pA.l4 false (f,iv,ct,un,wk,en,mo,we,yd,md,dy,ho,mi,se,po,())=pA.l5 (f,iv,ct,un,wk,en,mo,we,yd,md,dy,ho,mi,se,po,()):=by rw[pA.l4_eq,cond_false]
 have g3:Gate (pA.l3 false (f,iv,ct,un,wk,en,mo,we,yd,md,dy,ho,mi,se,po,())) (0<md.length→f≠3) (pA.l5 (f,iv,ct,un,wk,en,mo,we,yd,md,dy,ho,mi,se,po,())):=by
  rw[pA.l3_eq,cond_false];by_cases c:(md.length:Int)>0
  ·rw[dp c,cond_true];by_cases c2:f=3
   ·rw[dp c2,l4t];exact⟨fun q=>absurd c2 (q (by omega)),fun _=>rfl⟩
   ·rw[dn c2,l4f];exact⟨fun _=>rfl,fun q=>absurd (fun _=>c2) q⟩
  ·rw[dn c,cond_false,l4f];exact⟨fun _=>rfl,fun q=>absurd (fun x=>by omega) q⟩
 have g2:Gate (pA.l2 false (f,iv,ct,un,wk,en,mo,we,yd,md,dy,ho,mi,se,po,())) ((0<yd.length → ¬(2≤f∧f≤4))∧(0<md.length→f≠3)) (pA.l5 (f,iv,ct,un,wk,en,mo,we,yd,md,dy,ho,mi,se,po,())):=by
  rw[pA.l2_eq,cond_false];by_cases c:(yd.length:Int)>0
  ·rw[dp c,cond_true];by_cases c2:f≥2
   ·rw[dp c2,cond_true];by_cases c3:f≤4
    ·rw[dp c3,l3t];exact⟨fun q=>absurd ⟨by omega,c3⟩ (q.1 (by omega)),fun _=>rfl⟩
    ·rw[dn c3];exact g3.iff ⟨fun q=>⟨fun _=>by omega,q⟩,fun q=>q.2⟩
   ·rw[dn c2,cond_false];exact g3.iff ⟨fun q=>⟨fun _=>by omega,q⟩,fun q=>q.2⟩
  ·rw[dn c,cond_false];exact g3.iff ⟨fun q=>⟨fun x=>by omega,q⟩,fun q=>q.2⟩
 have g1:Gate (pA.l1 false (f,iv,ct,un,wk,en,mo,we,yd,md,dy,ho,mi,se,po,())) ((0<we.length→f=1)∧(0<yd.length → ¬(2≤f∧f≤4))∧(0<md.length→f≠3)) (pA.l5 (f,iv,ct,un,wk,en,mo,we,yd,md,dy,ho,mi,se,po,())):=by
  rw[pA.l1_eq,cond_false];by_cases c:(we.length:Int)>0
  ·rw[dp c,cond_true];by_cases c2:f=1
   ·rw[dp c2,xW1];exact g2.iff ⟨fun q=>⟨fun _=>c2,q⟩,fun q=>q.2⟩
   ·rw[dn c2,xX1,l2t];exact⟨fun q=>absurd (q.1 (by omega)) c2,fun _=>rfl⟩
  ·rw[dn c,cond_false];exact g2.iff ⟨fun q=>⟨fun x=>by omega,q⟩,fun q=>q.2⟩
 have hL:Gate ((pF.f (f,iv,ct,un,wk,en,mo,we,yd,md,dy,ho,mi,se,po,())).bind fun t2=>pA.l1 (!t2.1) (f,iv,ct,un,wk,en,mo,we,yd,md,dy,ho,mi,se,po,())) (dY f mo we yd md dy ho mi se po∧(0<we.length→f=1)∧(0<yd.length → ¬(2≤f∧f≤4))∧(0<md.length→f≠3)) (pA.l5 (f,iv,ct,un,wk,en,mo,we,yd,md,dy,ho,mi,se,po,())):=by
  have:=iG (yU f iv ct un wk en mo we yd md dy ho mi se po h) g1;obtain⟨b,h1,_⟩:=yU f iv ct un wk en mo we yd md dy ho mi se po h;rw[h1]at this ⊢;simp only[nW1]at this ⊢
  cases b with
  | true=>exact this
  | false=>rw[xX1,l1t];exact this
 rw[pA.f_eq];have:=iG (jG1 f iv ct un wk en mo we yd md dy ho mi se po) hL;simp only[l1t];exact this
end
theorem pN {K:Option (Bool×Unit)} {p:Prop} (h:¬p):Gate (some (false,())) p K:=⟨fun q=>absurd q h,fun _=>rfl⟩
theorem oS1 (l:List Int) (hi:Int) (z:Bool):wi l 1 hi z↔wi l 1 hi false:=by
 unfold wi;constructor
 ·exact fun h=>⟨fun j hj=>⟨⟨(h.1 j hj).1.1,(h.1 j hj).1.2.1,fun q=>by have:=(h.1 j hj).1.1;omega⟩,(h.1 j hj).2⟩,h.2⟩
 ·exact fun h=>⟨fun j hj=>⟨⟨(h.1 j hj).1.1,(h.1 j hj).1.2.1,fun q=>by have:=(h.1 j hj).1.1;omega⟩,(h.1 j hj).2⟩,h.2⟩
section
variable (f iv ct un wk : Int) (en : Bool) (mo we yd md : List Int) (dy : List Dy) (ho mi se po : List Int)
theorem vU1 (h:vN mo we yd md dy ho mi se po):Gate (aA.f (f,iv,ct,un,wk,en,mo,we,yd,md,dy,ho,mi,se,po,())) (mayP f iv ct un wk en mo we yd md dy ho mi se po) (aA.l8 (f,iv,ct,un,wk,en,mo,we,yd,md,dy,ho,mi,se,po,())):=by
 obtain⟨h1,h2,h3,h4,h5,h6,h7,h8,h9⟩:=h;have l1t:aA.l1 true (f,iv,ct,un,wk,en,mo,we,yd,md,dy,ho,mi,se,po,())=some (false,()):=by rw[aA.l1_eq,cond_true]
 have l2t:aA.l2 true (f,iv,ct,un,wk,en,mo,we,yd,md,dy,ho,mi,se,po,())=some (false,()):=by rw[aA.l2_eq,cond_true]
 have l2f:aA.l2 false (f,iv,ct,un,wk,en,mo,we,yd,md,dy,ho,mi,se,po,())=aA.l3 (f,iv,ct,un,wk,en,mo,we,yd,md,dy,ho,mi,se,po,()):=by rw[aA.l2_eq,cond_false]
 have l4t:aA.l4 true (f,iv,ct,un,wk,en,mo,we,yd,md,dy,ho,mi,se,po,())=some (false,()):=by rw[aA.l4_eq,cond_true]
 have l5t:aA.l5 true (f,iv,ct,un,wk,en,mo,we,yd,md,dy,ho,mi,se,po,())=some (false,()):=by rw[aA.l5_eq,cond_true]
 have l5f:aA.l5 false (f,iv,ct,un,wk,en,mo,we,yd,md,dy,ho,mi,se,po,())=aA.l6 (f,iv,ct,un,wk,en,mo,we,yd,md,dy,ho,mi,se,po,()):=by rw[aA.l5_eq,cond_false]
 have l7t:aA.l7 true (f,iv,ct,un,wk,en,mo,we,yd,md,dy,ho,mi,se,po,())=some (false,()):=by rw[aA.l7_eq,cond_true]
 have l7f:aA.l7 false (f,iv,ct,un,wk,en,mo,we,yd,md,dy,ho,mi,se,po,())=aA.l8 (f,iv,ct,un,wk,en,mo,we,yd,md,dy,ho,mi,se,po,()):=by rw[aA.l7_eq,cond_false]
 have g6:Gate (aA.l6 (f,iv,ct,un,wk,en,mo,we,yd,md,dy,ho,mi,se,po,())) (∀j,j<dy.length→numd f we dy j) (aA.l8 (f,iv,ct,un,wk,en,mo,we,yd,md,dy,ho,mi,se,po,())):=by
  rw[aA.l6_eq];obtain⟨b,e1,e2⟩:=bG1 dy (by omega);rw[e1];simp only[nW1]
  cases b with
  | false=>
   rw[cond_false,l7f];have:∀j,j<dy.length→numd f we dy j:=fun j hj hn=>absurd (e2.2 ⟨j,hj,hn⟩) (by simp)
   exact⟨fun _=>rfl,fun q=>absurd this q⟩
  | true=>
   obtain⟨j,hj,hn⟩:=e2.1 rfl;rw[cond_true];by_cases c2:f=2
   ·simp(disch:=omega)only[ss,l7f];exact⟨fun _=>rfl,fun q=>absurd (fun _ _ _=>.inl c2) q⟩
   ·by_cases c3:f=1
    ·by_cases c4:(we.length:Int)>0
     ·simp(disch:=omega)only[ss,l7t];exact pN fun q=>by rcases q j hj hn with q | q <;> omega
     ·simp(disch:=omega)only[ss,l7f];exact⟨fun _=>rfl,fun q=>absurd (fun _ _ _=>.inr ⟨c3,by omega⟩) q⟩
    ·simp(disch:=omega)only[ss,l7t];exact pN fun q=>by rcases q j hj hn with q | q <;> omega
 have g4:Gate (aA.l4 false (f,iv,ct,un,wk,en,mo,we,yd,md,dy,ho,mi,se,po,())) (((0<we.length→f=1)∧(0<yd.length → ¬(2≤f∧f≤4))∧(0<md.length→f≠3)) ∧ ∀j,j<dy.length→numd f we dy j) (aA.l8 (f,iv,ct,un,wk,en,mo,we,yd,md,dy,ho,mi,se,po,())):=by
  have hm:((0<we.length→f=1)∧(0<yd.length → ¬(2≤f∧f≤4)))→Gate (bif decide ((md.length:Int)>0)then(aA.l5 (decide (f=3)) (f,iv,ct,un,wk,en,mo,we,yd,md,dy,ho,mi,se,po,()))else(aA.l5 false (f,iv,ct,un,wk,en,mo,we,yd,md,dy,ho,mi,se,po,()))) (((0<we.length→f=1)∧(0<yd.length → ¬(2≤f∧f≤4))∧(0<md.length→f≠3)) ∧ ∀j,j<dy.length→numd f we dy j) (aA.l8 (f,iv,ct,un,wk,en,mo,we,yd,md,dy,ho,mi,se,po,())):=fun hh=>by
   by_cases c:(md.length:Int)>0
   ·rw[dp c,cond_true];by_cases c2:f=3
    ·rw[dp c2,l5t];exact pN fun q=>q.1.2.2 (by omega) c2
    ·rw[dn c2,l5f];exact g6.iff ⟨fun q=>⟨⟨hh.1,hh.2,fun _=>c2⟩,q⟩,fun q=>q.2⟩
   ·rw[dn c,cond_false,l5f];exact g6.iff ⟨fun q=>⟨⟨hh.1,hh.2,fun x=>by omega⟩,q⟩,fun q=>q.2⟩
  have hy:(0<we.length→f=1)→Gate (bif decide ((yd.length:Int)>0)then(bif decide (f≥2)then(bif decide (f≤4)then(aA.l5 true (f,iv,ct,un,wk,en,mo,we,yd,md,dy,ho,mi,se,po,()))else(bif decide ((md.length:Int)>0)then(aA.l5 (decide (f=3)) (f,iv,ct,un,wk,en,mo,we,yd,md,dy,ho,mi,se,po,()))else(aA.l5 false (f,iv,ct,un,wk,en,mo,we,yd,md,dy,ho,mi,se,po,()))))else(bif decide ((md.length:Int)>0)then(aA.l5 (decide (f=3)) (f,iv,ct,un,wk,en,mo,we,yd,md,dy,ho,mi,se,po,()))else(aA.l5 false (f,iv,ct,un,wk,en,mo,we,yd,md,dy,ho,mi,se,po,()))))else(bif decide ((md.length:Int)>0)then(aA.l5 (decide (f=3)) (f,iv,ct,un,wk,en,mo,we,yd,md,dy,ho,mi,se,po,()))else(aA.l5 false (f,iv,ct,un,wk,en,mo,we,yd,md,dy,ho,mi,se,po,())))) (((0<we.length→f=1)∧(0<yd.length → ¬(2≤f∧f≤4))∧(0<md.length→f≠3)) ∧ ∀j,j<dy.length→numd f we dy j) (aA.l8 (f,iv,ct,un,wk,en,mo,we,yd,md,dy,ho,mi,se,po,())):=fun hh=>by
   by_cases c:(yd.length:Int)>0
   ·rw[dp c,cond_true];by_cases c2:f≥2
    ·rw[dp c2,cond_true];by_cases c3:f≤4
     ·rw[dp c3,cond_true,l5t];exact pN fun q=>q.1.2.1 (by omega) ⟨by omega,c3⟩
     ·rw[dn c3,cond_false];exact hm ⟨hh,fun _=>by omega⟩
    ·rw[dn c2,cond_false];exact hm ⟨hh,fun _=>by omega⟩
   ·rw[dn c,cond_false];exact hm ⟨hh,fun x=>by omega⟩
  rw[aA.l4_eq,cond_false];by_cases c:(we.length:Int)>0
  ·rw[dp c,cond_true];by_cases c2:f=1
   ·rw[dp c2,xW1,cond_false];exact hy fun _=>c2
   ·rw[dn c2,xX1,cond_true,l5t];exact pN fun q=>c2 (q.1.1 (by omega))
  ·rw[dn c,cond_false];exact hy fun x=>by omega
 have g3:Gate (aA.l3 (f,iv,ct,un,wk,en,mo,we,yd,md,dy,ho,mi,se,po,())) (wi mo 1 12 true∧wi we (-53) 53 false∧wi yd (-366) 366 false∧wi md (-31) 31 false∧wi po (-366) 366 false∧wi ho 0 23 true∧wi mi 0 59 true∧wi se 0 59 true∧dwi dy∧(((0<we.length→f=1)∧(0<yd.length → ¬(2≤f∧f≤4))∧(0<md.length→f≠3)) ∧ ∀j,j<dy.length→numd f we dy j)) (aA.l8 (f,iv,ct,un,wk,en,mo,we,yd,md,dy,ho,mi,se,po,())):=by
  have hlast:∀{q:Prop},Gate (aA.l4 false (f,iv,ct,un,wk,en,mo,we,yd,md,dy,ho,mi,se,po,())) q (aA.l8 (f,iv,ct,un,wk,en,mo,we,yd,md,dy,ho,mi,se,po,()))→Gate ((xA.f dy).bind fun t10=>aA.l4 (!t10.1) (f,iv,ct,un,wk,en,mo,we,yd,md,dy,ho,mi,se,po,())) (dwi dy∧q) (aA.l8 (f,iv,ct,un,wk,en,mo,we,yd,md,dy,ho,mi,se,po,())):=fun {q} hq=>by
   have:=iG (fE1 dy (by omega)) hq;obtain⟨b,e1,_⟩:=fE1 dy (by omega);rw[e1]at this ⊢;simp only[nW1]at this ⊢
   cases b with
   | true=>exact this
   | false=>rw[xX1,l4t];exact this
  rw[aA.l3_eq];simp only[l4t];exact iG (vE mo 1 12 true (by omega)) (iG (vE we (-53) 53 false (by omega)) (iG (vE yd (-366) 366 false (by omega)) (iG (vE md (-31) 31 false (by omega)) (iG (vE po (-366) 366 false (by omega)) (iG (vE ho 0 23 true (by omega)) (iG (vE mi 0 59 true (by omega)) (iG (vE se 0 59 true (by omega)) (hlast g4))))))))
 have g3':=g3.iff (q:=dY f mo we yd md dy ho mi se po∧(0<we.length→f=1)∧(0<yd.length → ¬(2≤f∧f≤4))∧(0<md.length→f≠3)) (by
  rw[oS1 mo 12 true];unfold dY;constructor
  ·rintro⟨a1,a2,a3,a4,a5,a6,a7,a8,a9,a10,a11⟩;exact⟨⟨a1,a2,a3,a4,a6,a7,a8,a5,a9,a11⟩,a10⟩
  ·rintro⟨⟨a1,a2,a3,a4,a6,a7,a8,a5,a9,a11⟩,a10⟩
   exact⟨a1,a2,a3,a4,a5,a6,a7,a8,a9,a10,a11⟩)
 have no:¬numP f iv ct un wk en→Gate (some (false,())) (mayP f iv ct un wk en mo we yd md dy ho mi se po) (aA.l8 (f,iv,ct,un,wk,en,mo,we,yd,md,dy,ho,mi,se,po,())):=fun hn=>pN fun q=>hn q.1
 have yes:numP f iv ct un wk en→Gate (aA.l3 (f,iv,ct,un,wk,en,mo,we,yd,md,dy,ho,mi,se,po,())) (mayP f iv ct un wk en mo we yd md dy ho mi se po) (aA.l8 (f,iv,ct,un,wk,en,mo,we,yd,md,dy,ho,mi,se,po,())):=fun hn=>g3'.iff ⟨fun q=>⟨hn,q⟩,fun q=>q.2⟩
 rw[aA.f_eq];dsimp only;by_cases c:1≤f∧f≤7∧1≤iv∧iv≤1000∧0≤ct∧ct≤4096∧0≤wk∧wk≤6
 ·have c':=c;obtain⟨c1,c2,c3,c4,c5,c6,c7,c8⟩:=c;simp(disch:=omega)only[ss,aA.l1_eq,zE.f_eq]
  cases en with
  | true=>
   simp(disch:=omega)only[ss];by_cases d0:ct>0
   ·simp(disch:=omega)only[ss,l2t];exact no fun q=>by have:=(q.2.1 rfl).2;omega
   ·by_cases d1:un ≥ -62135596800
    ·by_cases d2:un<253402300800
     ·simp(disch:=omega)only[ss,l2f];exact yes ⟨c',fun _=>⟨⟨by omega,by omega⟩,by omega⟩,fun q=>by cases q⟩
     ·simp(disch:=omega)only[ss,l2t];exact no fun q=>by have:=(q.2.1 rfl).1;omega
    ·simp(disch:=omega)only[ss,l2t];exact no fun q=>by have:=(q.2.1 rfl).1;omega
  | false=>
   by_cases d0:un=0
   ·simp(disch:=omega)only[ss,l2f];exact yes ⟨c',(fun q=>by cases q),fun _=>d0⟩
   ·simp(disch:=omega)only[ss,l2t];exact no fun q=>d0 (q.2.2 rfl)
 ·have hn:=no fun q=>c q.1
  have hb:∀{p:Prop} [Decidable p] {x:Option (Bool×Unit)},(¬p→Gate x (mayP f iv ct un wk en mo we yd md dy ho mi se po) (aA.l8 (f,iv,ct,un,wk,en,mo,we,yd,md,dy,ho,mi,se,po,())))→Gate (bif decide p then(some (false,()))else x) (mayP f iv ct un wk en mo we yd md dy ho mi se po) (aA.l8 (f,iv,ct,un,wk,en,mo,we,yd,md,dy,ho,mi,se,po,())):=fun {p} _ {x} h1=>by
   by_cases hp:p
   ·rw[dp hp,cond_true];exact hn
   ·rw[dn hp,cond_false];exact h1 hp
  rw[l1t];refine hb fun d1=>hb fun d2=>hb fun d3=>hb fun d4=>hb fun d5=>hb fun d6=>hb fun d7=>?_
  have:wk>6:=by omega
  rw[dp this,l1t];exact hn
theorem cH1 :pA.l5 (f,iv,ct,un,wk,en,mo,we,yd,md,dy,ho,mi,se,po,())=aA.l8 (f,iv,ct,un,wk,en,mo,we,yd,md,dy,ho,mi,se,po,()):=by
 have e7:pA.l7 (f,iv,ct,un,wk,en,mo,we,yd,md,dy,ho,mi,se,po,())=aA.l10 (f,iv,ct,un,wk,en,mo,we,yd,md,dy,ho,mi,se,po,()):=by rw[pA.l7_eq,aA.l10_eq]
 have e6:∀b,pA.l6 b (f,iv,ct,un,wk,en,mo,we,yd,md,dy,ho,mi,se,po,())=aA.l9 b (f,iv,ct,un,wk,en,mo,we,yd,md,dy,ho,mi,se,po,()):=fun b=>by rw[pA.l6_eq,aA.l9_eq,e7]
 rw[pA.l5_eq,aA.l8_eq,e6,e6]
end
theorem wC1 (r:Rl) (h:vN r.2.2.2.2.2.2.1 r.2.2.2.2.2.2.2.1 r.2.2.2.2.2.2.2.2.1 r.2.2.2.2.2.2.2.2.2.1 r.2.2.2.2.2.2.2.2.2.2.1 r.2.2.2.2.2.2.2.2.2.2.2.1 r.2.2.2.2.2.2.2.2.2.2.2.2.1 r.2.2.2.2.2.2.2.2.2.2.2.2.2.1 r.2.2.2.2.2.2.2.2.2.2.2.2.2.2.1):pA.f r=aA.f r:=by obtain⟨f,iv,ct,un,wk,en,mo,we,yd,md,dy,ho,mi,se,po,⟨⟩⟩:=r;have g1:=fX f iv ct un wk en mo we yd md dy ho mi se po h;rw[cH1]at g1;exact g1.eq (vU1 f iv ct un wk en mo we yd md dy ho mi se po h)
theorem aQ (r:Rl) (h:vN r.2.2.2.2.2.2.1 r.2.2.2.2.2.2.2.1 r.2.2.2.2.2.2.2.2.1 r.2.2.2.2.2.2.2.2.2.1 r.2.2.2.2.2.2.2.2.2.2.1 r.2.2.2.2.2.2.2.2.2.2.2.1 r.2.2.2.2.2.2.2.2.2.2.2.2.1 r.2.2.2.2.2.2.2.2.2.2.2.2.2.1 r.2.2.2.2.2.2.2.2.2.2.2.2.2.2.1):∃b,pA.f r=some (b,()):=by
 obtain⟨f,iv,ct,un,wk,en,mo,we,yd,md,dy,ho,mi,se,po,⟨⟩⟩:=r;have g1:=fX f iv ct un wk en mo we yd md dy ho mi se po h;by_cases hp:mayP f iv ct un wk en mo we yd md dy ho mi se po
 ·rw[g1.1 hp,pA.l5_eq];have e7:∃b,pA.l7 (f,iv,ct,un,wk,en,mo,we,yd,md,dy,ho,mi,se,po,())=some (b,()):=by
   rw[pA.l7_eq];cases decide (f>4)with
   | true=>exact⟨_,rfl⟩
   | false=>exact⟨_,rfl⟩
  have e6:∀c,∃b,pA.l6 c (f,iv,ct,un,wk,en,mo,we,yd,md,dy,ho,mi,se,po,())=some (b,()):=fun c=>by
   rw[pA.l6_eq]
   cases c with
   | true=>exact⟨_,rfl⟩
   | false=>exact e7
  cases decide ((po.length:Int)>0)with
  | true=>exact e6 _
  | false=>exact e6 _
 ·exact⟨false,g1.2 hp⟩
theorem gL1 (l:List Int) (x:Int) (hl:l.length≤1000000):∀(k i:Nat),l.length-i=k→i≤l.length → ∃n:Int,uB.l1 l x l.length i=some (n,())∧(n≥0↔x∈l.drop i):=by
 intro k
 induction k with
 | zero=>
  intro i hk hil;refine⟨-1,?_,?_⟩
  ·rw[uB.l1_eq];simp(disch:=omega)only[ss]
  ·rw[gZ1 (by omega)];simp
 | succ k ih=>
  intro i hk hil;have hlt:i<l.length:=by omega
  rw[uB.l1_eq,aC 0 hlt];by_cases c:x=l.getD i 0
  ·refine⟨i,?_,?_⟩
   ·simp(disch:=omega)only[ss]
   ·exact⟨fun _=>by rw[c];exact qW1 ..,fun _=>by omega⟩
  ·obtain⟨n,h1,h2⟩:=ih (i+1) (by omega) (by omega);rw[aY1,bY1]at h1;refine⟨n,?_,?_⟩
   ·simp(disch:=omega)only[ss,h1]
   ·rw[h2,sW1];exact⟨.inr,fun h=>h.resolve_left c⟩
theorem dE (l:List Int) (x:Int) (hl:l.length≤1000000):kB.f l x=some (decide (x∈l),()):=by obtain⟨n,h1,h2⟩:=gL1 l x hl _ 0 rfl (uW1 _);rw[jX1]at h1;rw[wX1]at h2;rw[kB.f_eq,uB.f_eq,h1];simp only[nW1];rw[decide_eq_decide.2 h2]
theorem jX (l:List Int) (x:Int) (hl:l.length≤1000000):mD.f l x=some (decide (x∈l),()):=by
 have key:∀(k i:Nat),l.length-i=k→i≤l.length→mD.l1 l x i=some (decide (x∈l.drop i),()):=by
  intro k
  induction k with
  | zero=>
   intro i hk hil;rw[mD.l1_eq,gZ1 (by omega)];simp(disch:=omega)only[ss];rfl
  | succ k ih=>
   intro i hk hil;have hlt:i<l.length:=by omega
   have:=ih (i+1) (by omega) (by omega);rw[aY1,bY1]at this;rw[mD.l1_eq,aC 0 hlt];by_cases c:l.getD i 0=x
   ·rw[dp (show x∈l.getD i 0::l.drop (i+1) by rw[c];exact qW1 ..)];simp(disch:=omega)only[ss]
   ·have e:decide (x∈l.getD i 0::l.drop (i+1))=decide (x∈l.drop (i+1)):=decide_eq_decide.2 (by rw[sW1];exact⟨fun h=>h.resolve_left fun q=>c q.symm,.inr⟩);rw[e];simp(disch:=omega)only[ss,this]
 have:=key _ 0 rfl (uW1 _);rw[jX1,wX1]at this;rw[mD.f_eq];exact this
def hasP (l:List Int) (n all:Int):Prop:=l=[]∨n∈l∨n-all-1∈l
theorem pR (l:List Int) (n all:Int) (hl:l.length≤1000000) (hn:0≤n∧n≤1000) (ha:0≤all∧all≤1000):aD (oJ.f l n all) (hasP l n all):=by
 unfold hasP;rw[oJ.f_eq];by_cases c:l=[]
 ·subst c;rw[qY1];exact⟨true,by simp(disch:=omega)only[ss],by simp⟩
 ·have hp:¬(l.length:Int)=0:=by have:=xZ1.2 c;omega
  by_cases c1:n∈l
  ·exact⟨true,by simp(disch:=omega)only[ss,dE l n hl,dp c1],by simp[c1]⟩
  ·refine⟨decide (n-all-1∈l),?_,?_⟩
   ·simp(disch:=omega)only[ss,dE l _ hl,dn c1]
   ·rw[decide_eq_true_iff];simp[c,c1]
theorem qR (y:Int) (hy:0≤y):aE.f y=some (cum y 13,()):=by
 rw[aE.f_eq,jA1 y hy];have h3:(3:Int)≤13:=by omega
 unfold cum cumT
 cases eP y with
 | true=>simp
 | false=>simp
theorem mV (n y m d:Int) (e:uA.f n=some (y,m,d,0,())):lI.f n=some ((n,y,m,d,wk n,()),true,()):=by rw[lI.f_eq,e];simp only[nW1];rw[zG];rfl
theorem qP1 (n:Int) (h:¬(-719162≤n∧n≤2932896)):lI.f n=some ((n,0,0,0,wk n,()),false,()):=by rw[lI.f_eq,(iK1 n h).1];simp only[nW1];rw[zG];rfl
def wdP (f:Int) (mo:List Int) (dy:List Dy) (n y m d:Int):Prop:=
 dy=[] ∨ ∃x∈dy,x.2.1=wk n∧(x.1=0∨x.1=((if f=2∨mo≠[]then d else n-fst_ y+1)-1)/7+1∨x.1 = -(((if f=2∨mo≠[]then mlen y m else cum y 13)-(if f=2∨mo≠[]then d else n-fst_ y+1))/7+1))
theorem oI1 (fr bk n y m d:Int) (l:List Dy) (hl:l.length≤1000000):∀(k i:Nat),l.length-i=k→i≤l.length →
  aD (sA.l3 fr bk l l.length i (n,y,m,d,wk n,())) (∃x∈l.drop i,x.2.1=wk n∧(x.1=0∨x.1=fr∨x.1=bk)):=by
 intro k
 induction k with
 | zero=>
  intro i hk hil;rw[sA.l3_eq,gZ1 (by omega)];exact⟨false,by simp(disch:=omega)only[ss],by simp⟩
 | succ k ih=>
  intro i hk hil;have hlt:i<l.length:=by omega
  obtain⟨b,h1,h2⟩:=ih (i+1) (by omega) (by omega);rw[aY1,bY1]at h1;rw[sA.l3_eq,aC ((0,0,()):Dy) hlt];generalize hx:l.getD i ((0,0,()):Dy)=x;have hx':l.getD i ((0,0,()):Int×Int×Unit)=x:=hx;by_cases c:x.2.1=wk n∧(x.1=0∨x.1=fr∨x.1=bk)
  ·refine⟨true,?_,by simp only[true_iff];exact⟨x,qW1 ..,c⟩⟩;obtain⟨c1,c2⟩:=c;by_cases d0:x.1=0
   ·simp(disch:=omega)only[ss,hx',sA.l4_eq]
   ·by_cases d1:x.1=fr
    ·simp(disch:=omega)only[ss,hx',sA.l4_eq]
    ·have d2:x.1=bk:=by omega
     simp(disch:=omega)only[ss,hx',sA.l4_eq]
  ·refine⟨b,?_,?_⟩
   ·by_cases c1:x.2.1=wk n
    ·have d0:¬x.1=0:=fun q=>c ⟨c1,.inl q⟩
     have d1:¬x.1=fr:=fun q=>c ⟨c1,.inr (.inl q)⟩
     have d2:¬x.1=bk:=fun q=>c ⟨c1,.inr (.inr q)⟩
     simp(disch:=omega)only[ss,hx',sA.l4_eq,h1]
    ·simp(disch:=omega)only[ss,hx',sA.l4_eq,h1]
   ·rw[h2];constructor
    ·rintro⟨z,hz,h⟩;exact⟨z,pW1 _ hz,h⟩
    ·rintro⟨z,hz,h⟩;rcases sW1.1 hz with e | hz
     ·exact absurd (e ▸ h) c
     ·exact⟨z,hz,h⟩
section
variable (f iv ct un wkst : Int) (en : Bool) (mo we yd md : List Int) (dy : List Dy) (ho mi se po : List Int)
theorem fJ1 (n y m d:Int) (hs:mo.length≤100000∧dy.length≤100000) (h:vH n y m d) (e:uA.f n=some (y,m,d,0,())):
  aD (sA.f (f,iv,ct,un,wkst,en,mo,we,yd,md,dy,ho,mi,se,po,()) (n,y,m,d,wk n,())) (wdP f mo dy n y m d):=by
 obtain⟨q1,q2,q3,q4,q5,q6⟩:=gF h;obtain⟨v1,v2,v3,v4⟩:=lC.1 h.1;have hy:=bJ y (by omega);have h13:=nE1 y;have hs13:=aG y v1;have hml:=kK y m;have hl0:=oI1;unfold wdP;rw[sA.f_eq];by_cases c:dy=[]
 ·subst c;exact⟨true,by simp(disch:=omega)only[ss,qY1],by simp⟩
 ·have hp:¬(dy.length:Int)=0:=by have:=xZ1.2 c;omega
  have go:∀at_ all:Int,1≤at_→at_≤all→all≤400→aD (sA.l2 at_ all (f,iv,ct,un,wkst,en,mo,we,yd,md,dy,ho,mi,se,po,()) (n,y,m,d,wk n,())) (∃x∈dy,x.2.1=wk n∧(x.1=0∨x.1=(at_-1)/7+1∨x.1 = -((all-at_)/7+1))):=fun at_ all a1 a2 a3=>by
   have:=oI1 ((at_-1)/7+1) (-((all-at_)/7+1)) n y m d dy (by omega) _ 0 rfl (uW1 _);rw[jX1,wX1]at this;have e0:0-((all-at_)/7+1) = -((all-at_)/7+1):=by omega
   rw[sA.l2_eq];simp(disch:=omega)only[ss,tdn (show(0:Int)≤at_-1 by omega),tdn (show(0:Int)≤all-at_ by omega),e0];exact this
  have e1:=tO n y m d h e;have e2:=qR y (by omega);have e3:=sG y m (by omega);by_cases c2:f=2∨mo≠[]
  ·have l1:sA.l1 (n-fst_ y+1) (cum y 13) true (f,iv,ct,un,wkst,en,mo,we,yd,md,dy,ho,mi,se,po,()) (n,y,m,d,wk n,())=sA.l2 d (mlen y m) (f,iv,ct,un,wkst,en,mo,we,yd,md,dy,ho,mi,se,po,()) (n,y,m,d,wk n,()):=by rw[sA.l1_eq];simp(disch:=omega)only[ss,e3]
   rw[if_pos c2,if_pos c2];have g:=go d (mlen y m) v3 v4 (by omega);have hc:(dy=[] ∨ ∃x∈dy,x.2.1=wk n∧(x.1=0∨x.1=(d-1)/7+1∨x.1 = -((mlen y m-d)/7+1)))↔(∃x∈dy,x.2.1=wk n∧(x.1=0∨x.1=(d-1)/7+1∨x.1 = -((mlen y m-d)/7+1))):=⟨fun h=>h.resolve_left c,.inr⟩
   refine aD.iff ?_ hc.symm;by_cases c3:f=2
   ·simp(disch:=omega)only[ss,e1,e2,l1];exact g
   ·have hm:mo≠[]:=c2.resolve_left c3;have hmp:(mo.length:Int)>0:=by have:=xZ1.2 hm;omega
    simp(disch:=omega)only[ss,e1,e2,l1];exact g
  ·rw[if_neg c2,if_neg c2];have c3:¬f=2:=fun q=>c2 (.inl q)
   have c4:mo=[]:=Classical.byContradiction fun q=>c2 (.inr q)
   subst c4;have l1:sA.l1 (n-fst_ y+1) (cum y 13) false (f,iv,ct,un,wkst,en,[],we,yd,md,dy,ho,mi,se,po,()) (n,y,m,d,wk n,())=sA.l2 (n-fst_ y+1) (cum y 13) (f,iv,ct,un,wkst,en,[],we,yd,md,dy,ho,mi,se,po,()) (n,y,m,d,wk n,()):=by rw[sA.l1_eq,cond_false]
   have g:=go (n-fst_ y+1) (cum y 13) (by omega) (by omega) (by omega);have hc:(dy=[] ∨ ∃x∈dy,x.2.1=wk n∧(x.1=0∨x.1=(n-fst_ y+1-1)/7+1∨x.1 = -((cum y 13-(n-fst_ y+1))/7+1)))↔(∃x∈dy,x.2.1=wk n∧(x.1=0∨x.1=(n-fst_ y+1-1)/7+1∨x.1 = -((cum y 13-(n-fst_ y+1))/7+1))):=⟨fun h=>h.resolve_left c,.inr⟩
   refine aD.iff ?_ hc.symm;have hnil:(([]:List Int).length:Int)=0:=rfl;simp(disch:=omega)only[ss,e1,e2,hnil,l1];exact g
def stP (m0 d0 w0 n m d:Int):Prop:=(yd≠[]∨md≠[]∨dy≠[])∨((we≠[]∧wk n=w0)∨(we=[]∧((f=1∧d=d0∧(mo≠[]∨m=m0))∨(f=2∧d=d0)∨(f=3∧wk n=w0)∨(f≠1∧f≠2∧f≠3))))
theorem cH {α:Type} {l:List α}:l≠[]↔(l.length:Int)>0:=by rw[←xZ1];omega
theorem eG1 (s sec n0 y0 m0 d0 w0 n y m d:Int) (hs:mo.length≤100000∧we.length≤100000∧yd.length≤100000∧md.length≤100000∧dy.length≤100000):
  aD (bE.f ((f,iv,ct,un,wkst,en,mo,we,yd,md,dy,ho,mi,se,po,()),s,(n0,y0,m0,d0,w0,()),sec,()) (n,y,m,d,wk n,())) (stP f mo we yd md dy m0 d0 w0 n m d):=by
 unfold stP;rw[bE.f_eq];by_cases c:yd≠[]∨md≠[]∨dy≠[]
 ·have hp:(yd.length:Int)+(md.length:Int)+(dy.length:Int)>0:=by rw[cH,cH,cH]at c;omega
  exact⟨true,by simp(disch:=omega)only[ss],by simp[c]⟩
 ·have hp:¬(yd.length:Int)+(md.length:Int)+(dy.length:Int)>0:=by rw[cH,cH,cH]at c;omega
  by_cases c1:we=[]
  ·subst c1;have hnil:(([]:List Int).length:Int)=0:=rfl;by_cases f1:f=1
   ·subst f1;by_cases dd:d=d0
    ·by_cases mm_:mo=[]
     ·subst mm_;refine⟨decide (m=m0),by simp(disch:=omega)only[ss,hnil],?_⟩;rw[decide_eq_true_iff];simp[c,dd]
     ·have hmp:(mo.length:Int)>0:=cH.1 mm_;exact⟨true,by simp(disch:=omega)only[ss,hnil],by simp[dd,mm_]⟩
    ·exact⟨false,by simp(disch:=omega)only[ss,hnil],by simp[c,dd]⟩
   ·by_cases f2:f=2
    ·subst f2;refine⟨decide (d=d0),by simp(disch:=omega)only[ss,hnil],?_⟩;rw[decide_eq_true_iff];simp[c]
    ·by_cases f3:f=3
     ·subst f3;refine⟨decide (wk n=w0),by simp(disch:=omega)only[ss,hnil],?_⟩;rw[decide_eq_true_iff];simp[c]
     ·exact⟨true,by simp(disch:=omega)only[ss,hnil],by simp[f1,f2,f3]⟩
  ·have hwp:(we.length:Int)>0:=cH.1 c1;refine⟨decide (wk n=w0),by simp(disch:=omega)only[ss],?_⟩;rw[decide_eq_true_iff];simp[c,c1]
def wkP (n:Int):Prop:=we=[] ∨ ∃Y k,rT n wkst Y k∧1≤Y∧Y≤9999∧hasP we k (wks Y wkst)
theorem wH1 (n y m d:Int) (hs:we.length≤100000) (h:vH n y m d) (hw:0≤wkst∧wkst≤6):
  aD (cG.f (f,iv,ct,un,wkst,en,mo,we,yd,md,dy,ho,mi,se,po,()) (n,y,m,d,wk n,())) (wkP wkst we n):=by
 obtain⟨q1,q2,q3,q4,q5,q6⟩:=gF h;unfold wkP;rw[cG.f_eq];by_cases c:we=[]
 ·subst c;exact⟨true,by simp(disch:=omega)only[ss,qY1],by simp⟩
 ·have hwp:(we.length:Int)>0:=cH.1 c;obtain⟨Y,k,w1_,w2,w3,w4,w5,w6,_⟩:=nR n wkst q5 q6 hw.1 hw.2;have hW:=rE1 Y wkst;by_cases cY:1≤Y∧Y≤9999
  ·rw[if_pos ⟨cY,hw⟩]at hW;have hb:=gU1 Y wkst (by omega);obtain⟨b,h1,h2⟩:=pR we k (wks Y wkst) (by omega) (by omega) (by omega);refine⟨b,by simp(disch:=omega)only[ss,w6,hW,h1],?_⟩;rw[h2];constructor
   ·exact fun h=>.inr ⟨Y,k,w1_,cY.1,cY.2,h⟩
   ·rintro(q | ⟨Y',k',x1,x2,x3,x4⟩)
    ·exact absurd q c
    ·obtain⟨e1,e2⟩:=mM w2 (by omega) w1_ x1;rw[e1,e2];exact x4
  ·rw[if_neg fun q=>cY q.1]at hW;refine⟨false,by simp(disch:=omega)only[ss,w6,hW],?_⟩;simp only[nX1,false_iff];rintro(q | ⟨Y',k',x1,x2,x3,_⟩)
   ·exact c q
   ·obtain⟨e1,_⟩:=mM w2 (by omega) w1_ x1;exact cY (by omega)
end
def aI (r:Rl):Prop:=vN r.2.2.2.2.2.2.1 r.2.2.2.2.2.2.2.1 r.2.2.2.2.2.2.2.2.1 r.2.2.2.2.2.2.2.2.2.1 r.2.2.2.2.2.2.2.2.2.2.1 r.2.2.2.2.2.2.2.2.2.2.2.1 r.2.2.2.2.2.2.2.2.2.2.2.2.1 r.2.2.2.2.2.2.2.2.2.2.2.2.2.1 r.2.2.2.2.2.2.2.2.2.2.2.2.2.2.1
theorem cI {p:Prop} [Decidable p] {X:Option (Bool×Unit)} {Q:Prop} (h:p → ∃b,X=some (b,())∧(b=true→Q)):∃b,(bif decide p then X else some (false,()))=some (b,())∧(b=true→Q):=by
 by_cases c:p
 ·rw[dp c];exact h c
 ·rw[dn c];exact⟨false,rfl,fun q=>by cases q⟩
theorem qD1 (r:Rl):∃b,tF.f r=some (b,())∧(b=true→aI r):=by
 rw[tF.f_eq];refine cI fun h1=>cI fun h2=>cI fun h3=>cI fun h4=>cI fun h5=>cI fun h6=>cI fun h7=>cI fun h8=>⟨_,rfl,fun h9=>?_⟩
 rw[decide_eq_true_iff]at h9;unfold aI vN;omega
theorem bT1 {r:Rl} (hs:aI r) (hM:pA.f r=some (true,())):mayP r.1 r.2.1 r.2.2.1 r.2.2.2.1 r.2.2.2.2.1 r.2.2.2.2.2.1 r.2.2.2.2.2.2.1 r.2.2.2.2.2.2.2.1 r.2.2.2.2.2.2.2.2.1 r.2.2.2.2.2.2.2.2.2.1 r.2.2.2.2.2.2.2.2.2.2.1 r.2.2.2.2.2.2.2.2.2.2.2.1 r.2.2.2.2.2.2.2.2.2.2.2.2.1 r.2.2.2.2.2.2.2.2.2.2.2.2.2.1 r.2.2.2.2.2.2.2.2.2.2.2.2.2.2.1:=by
 have g:=fX r.1 r.2.1 r.2.2.1 r.2.2.2.1 r.2.2.2.2.1 r.2.2.2.2.2.1 r.2.2.2.2.2.2.1 r.2.2.2.2.2.2.2.1 r.2.2.2.2.2.2.2.2.1 r.2.2.2.2.2.2.2.2.2.1 r.2.2.2.2.2.2.2.2.2.2.1 r.2.2.2.2.2.2.2.2.2.2.2.1 r.2.2.2.2.2.2.2.2.2.2.2.2.1 r.2.2.2.2.2.2.2.2.2.2.2.2.2.1 r.2.2.2.2.2.2.2.2.2.2.2.2.2.2.1 hs;refine Classical.byContradiction fun q=>?_
 have h1:pA.f r=some (false,()):=g.2 q;rw[hM]at h1;cases h1
abbrev inT (t:Int):Prop:= -62135596800≤t∧t≤253402300799
theorem pL {t:Int} (h:inT t): -719162≤t/86400∧t/86400≤2932896:=by unfold inT at h;omega
theorem kI (r:Rl) (s:Int) (hM:pA.f r=some (true,())) (ht:inT s) (y m d:Int) (e:uA.f (s/86400)=some (y,m,d,0,())):
  wD.f r s=some ((r,s,(s/86400,y,m,d,wk (s/86400),()),s%86400,()),true,()):=by
 have hS:wF.f s=some (true,()):=by rw[(cS s).1,dp ht]
 have hD:=(fG s (by unfold inT at ht;omega) (by unfold inT at ht;omega)).1;rw[wD.f_eq,hM];simp(disch:=omega)only[ss,hS,wD.l1_eq,hD,mV _ _ _ _ e]
theorem rP1 (r:Rl) (s:Int) (b:Bool) (hM:pA.f r=some (b,())) (h:¬(b=true∧inT s)):wD.f r s=some (((0,0,0,0,0,false,[],[],[],[],[],[],[],[],[],()),0,(0,0,0,0,0,()),0,()),false,()):=by
 rw[wD.f_eq,hM]
 cases b with
 | false=>simp(disch:=omega)only[ss,wD.l1_eq]
 | true=>
  have hS:wF.f s=some (false,()):=by rw[(cS s).1,dn (show ¬inT s from fun q=>h ⟨rfl,q⟩)]
  simp(disch:=omega)only[ss,hS,wD.l1_eq]
section
variable (f iv ct un wkst : Int) (en : Bool) (mo we yd md : List Int) (dy : List Dy) (ho mi se po : List Int)
def fitP (m0 d0 w0 n y m d:Int):Prop:=(mo=[]∨m∈mo)∧hasP yd (n-fst_ y+1) (cum y 13)∧hasP md d (mlen y m)∧wdP f mo dy n y m d∧stP f mo we yd md dy m0 d0 w0 n m d∧wkP wkst we n
theorem cL1 (s sec n0 y0 m0 d0 w0 n y m d:Int) (hs:vN mo we yd md dy ho mi se po) (hw:0≤wkst∧wkst≤6) (h:vH n y m d) (e:uA.f n=some (y,m,d,0,())):
  aD (iB.f ((f,iv,ct,un,wkst,en,mo,we,yd,md,dy,ho,mi,se,po,()),s,(n0,y0,m0,d0,w0,()),sec,()) n) (fitP f wkst mo we yd md dy m0 d0 w0 n y m d):=by
 obtain⟨k1,k2,k3,k4,k5,k6,k7,k8,k9⟩:=hs;obtain⟨q1,q2,q3,q4,q5,q6⟩:=gF h;obtain⟨v1,v2,v3,v4⟩:=lC.1 h.1;have h13:=nE1 y;have hs13:=aG y v1;have hml:=kK y m;have t1:=pR yd (n-fst_ y+1) (cum y 13) (by omega) (by omega) (by omega);have t2:=pR md d (mlen y m) (by omega) (by omega) (by omega);have t3:=fJ1 f iv ct un wkst en mo we yd md dy ho mi se po n y m d ⟨k1,k5⟩ h e;have t4:=eG1 f iv ct un wkst en mo we yd md dy ho mi se po s sec n0 y0 m0 d0 w0 n y m d ⟨k1,k2,k3,k4,k5⟩;have t5:=wH1 f iv ct un wkst en mo we yd md dy ho mi se po n y m d k2 h hw;have tl:=nT t5;have ta:=eF t4 tl;have tb:=eF t3 ta;have hL:aD (iB.l2 n ((f,iv,ct,un,wkst,en,mo,we,yd,md,dy,ho,mi,se,po,()),s,(n0,y0,m0,d0,w0,()),sec,()) (n,y,m,d,wk n,())) (hasP yd (n-fst_ y+1) (cum y 13)∧hasP md d (mlen y m)∧wdP f mo dy n y m d∧stP f mo we yd md dy m0 d0 w0 n m d∧wkP wkst we n):=by rw[iB.l2_eq,tO n y m d h e];simp only[nW1];rw[qR y (by omega)];simp only[nW1];refine eF t1 ?_;rw[sG y m (by omega)];simp only[nW1];exact eF t2 tb
 unfold fitP;rw[iB.f_eq,mV n y m d e];simp only[nW1,xW1,cond_false];by_cases c:mo=[]
 ·subst c;have hnil:(([]:List Int).length:Int)=0:=rfl;simp(disch:=omega)only[ss,hnil,iB.l1_eq];exact hL.iff ⟨fun q=>⟨.inl trivial,q⟩,fun q=>q.2⟩
 ·have hmp:(mo.length:Int)>0:=cH.1 c;by_cases cm:m∈mo
  ·simp(disch:=omega)only[ss,dE mo m (by omega),dp cm,iB.l1_eq];exact hL.iff ⟨fun q=>⟨.inr cm,q⟩,fun q=>q.2⟩
  ·simp(disch:=omega)only[ss,dE mo m (by omega),dn cm,iB.l1_eq];exact⟨false,rfl,by simp[c,cm]⟩
theorem hJ1 (s sec n0 y0 m0 d0 w0 n:Int) (h:¬(-719162≤n∧n≤2932896)):iB.f ((f,iv,ct,un,wkst,en,mo,we,yd,md,dy,ho,mi,se,po,()),s,(n0,y0,m0,d0,w0,()),sec,()) n=some (false,()):=by rw[iB.f_eq,qP1 n h];simp(disch:=omega)only[ss,iB.l1_eq]
end
theorem qE (l:List Int) (h:l.length≤1000000):gB.f l=some (l,()):=by have hlim:mC=17179869184:=rfl;rw[gB.f_eq];simp(disch:=omega)only[ss,qY1,hlim,uX1,gB.l1_eq]
theorem rH1 (r:Rl) (h:aI r):iF.f r=some (r,()):=by have hlim:mC=17179869184:=rfl;unfold aI vN at h;obtain⟨h1,h2,h3,h4,h5,h6,h7,h8,h9⟩:=h;rw[iF.f_eq,qE _ (by omega),qE _ (by omega),qE _ (by omega),qE _ (by omega),qE _ (by omega),qE _ (by omega),qE _ (by omega),qE _ (by omega)];simp(disch:=omega)only[ss,qY1,hlim,uX1]
def Rise (l:List Int):Prop:=l.Pairwise (· < ·)
theorem xD {x:Int} {l:List Int}:Rise (x::l)↔(∀y,y∈l→x<y)∧Rise l:=gY1
theorem qF :Rise []:=List.Pairwise.nil
theorem bN {a b:List Int}:Rise (a++b)↔Rise a∧Rise b ∧ ∀x,x∈a → ∀y,y∈b→x<y:=mZ1
theorem cL :∀{a b:List Int},Rise a→Rise b→(∀x,x∈a↔x∈b)→a=b
 | [],[],_,_,_=>rfl
 | [],y::b,_,_,h=>absurd ((h y).2 (qW1 ..)) (by simp)
 | x::a,[],_,_,h=>absurd ((h x).1 (qW1 ..)) (by simp)
 | x::a,y::b,ha,hb,h=>by
  have pa:=xD.1 ha;have pb:=xD.1 hb;have e:x=y:=by
   rcases sW1.1 ((h x).1 (qW1 ..))with e | e
   ·exact e
   ·rcases sW1.1 ((h y).2 (qW1 ..))with f | f
    ·exact f.symm
    ·have:=pb.1 x e;have:=pa.1 y f;omega
  subst e;have:a=b:=by
   refine cL pa.2 pb.2 fun z=>⟨fun hz=>?_,fun hz=>?_⟩
   ·rcases sW1.1 ((h z).1 (pW1 _ hz))with e | e
    ·have:=pa.1 z hz;omega
    ·exact e
   ·rcases sW1.1 ((h z).2 (pW1 _ hz))with e | e
    ·have:=pb.1 z hz;omega
    ·exact e
  rw[this]
theorem yK :∀{l:List Int},Rise l → ∀{i j:Nat},i<j→j<l.length→l.getD i 0<l.getD j 0
 | [],_,_,_,_,h=>absurd h (by simp)
 | x::l,hr,0,0,h,_=>absurd h (by omega)
 | x::l,hr,0,j+1,_,h=>by
  have hj:j<l.length:=by simpa using h
  rw[List.getD_cons_zero,List.getD_cons_succ,jK 0 hj];exact(xD.1 hr).1 _ (List.getElem_mem hj)
 | x::l,hr,i+1,0,h,_=>absurd h (by omega)
 | x::l,hr,i+1,j+1,h,h2=>by rw[List.getD_cons_succ,List.getD_cons_succ];exact yK (xD.1 hr).2 (by omega) (by simpa using h2)
theorem kM1 {l:List Int} (hr:Rise l) {i j:Nat} (hi:i<l.length) (hj:j<l.length) (e:l.getD i 0=l.getD j 0):i=j:=by
 rcases Nat.lt_trichotomy i j with h | h | h
 ·have:=yK hr h hj;omega
 ·exact h
 ·have:=yK hr h hi;omega
theorem kC1 :∀{l:List Int},(∀j,0<j→j<l.length→l.getD (j-1) 0<l.getD j 0)→Rise l
 | [],_=>qF
 | [x],_=>xD.2 ⟨fun y h=>absurd h (by simp),qF⟩
 | x::y::l,h=>by
  have hr:Rise (y::l):=kC1 fun j h0 hj=>by
   have:=h (j+1) (by omega) (by simpa using hj)
   match j,h0 with
   | j+1,_=>simpa using this
  have hxy:x<y:=by simpa using h 1 (by omega) (by simp)
  refine xD.2 ⟨fun z hz=>?_,hr⟩;rcases sW1.1 hz with e | e
  ·omega
  ·have:=(xD.1 hr).1 z e;omega
theorem uW {l:List Int} {x:Int} (h:x∈l):∃i,i<l.length∧l.getD i 0=x:=by obtain⟨i,hi,e⟩:=List.mem_iff_getElem.1 h;exact⟨i,hi,by rw[jK 0 hi,e]⟩
theorem rH {l:List Int} {i:Nat} (h:i<l.length):l.getD i 0∈l:=by rw[jK 0 h];exact List.getElem_mem h
theorem bA1 {l:List Int} (h:Rise l) (n:Nat):Rise (l.take n):=List.Pairwise.sublist (List.take_sublist n l) h
def tod (h m c:List Int):List Int:=h.flatMap fun a=>m.flatMap fun b=>c.map fun s=>3600*a+60*b+s
def inR (l:List Int) (hi:Int):Prop:=∀x,x∈l→0≤x∧x≤hi
theorem uB1 {h m c:List Int} (hm:inR m 59) (hc:inR c 59) (x:Int):x∈tod h m c↔x/3600∈h∧x/60%60∈m∧x%60∈c:=by
 unfold tod;rw[aZ1];constructor
 ·rintro⟨a,ha,hx⟩;obtain⟨b,hb,hx⟩:=aZ1.1 hx;obtain⟨s,hs,e⟩:=iX1.1 hx;have:=hm b hb;have:=hc s hs;have e1:x/3600=a:=by omega
  have e2:x/60%60=b:=by omega
  have e3:x%60=s:=by omega
  rw[e1,e2,e3];exact⟨ha,hb,hs⟩
 ·rintro⟨h1,h2,h3⟩;exact⟨_,h1,aZ1.2 ⟨_,h2,iX1.2 ⟨_,h3,by omega⟩⟩⟩
theorem aW {l:List Int} (h:Rise l) (f:Int→Int) (hf:∀x y,x<y→f x<f y):Rise (l.map f):=by unfold Rise;rw[List.pairwise_map];exact List.Pairwise.imp (fun {a b} h=>hf a b h) h
theorem xM :∀{l:List Int} {f:Int→List Int},Rise l→(∀a,a∈l→Rise (f a))→(∀a b,a∈l→b∈l→a<b → ∀x,x∈f a → ∀y,y∈f b→x<y)→Rise (l.flatMap f)
 | [],_,_,_,_=>qF
 | a::l,f,h,h1,h2=>by rw[iZ1,bN];have p:=xD.1 h;refine⟨h1 a (qW1 ..),xM p.2 (fun b hb=>h1 b (pW1 _ hb)) (fun b b' hb hb'=>h2 b b' (pW1 _ hb) (pW1 _ hb')),fun x hx y hy=>?_⟩;obtain⟨b,hb,hy⟩:=aZ1.1 hy;exact h2 a b (qW1 ..) (pW1 _ hb) (p.1 b hb) x hx y hy
theorem fO1 {h m c:List Int} (rh:Rise h) (rm:Rise m) (rc:Rise c) (hm:inR m 59) (hc:inR c 59):Rise (tod h m c):=by
 refine xM rh (fun a ha=>xM rm (fun b hb=>aW rc _ fun x y h=>by omega) ?_) ?_
 ·intro b b' hb hb' hlt x hx y hy;obtain⟨s,hs,e⟩:=iX1.1 hx;obtain⟨s',hs',e'⟩:=iX1.1 hy;have:=hc s hs;have:=hc s' hs';omega
 ·intro b b' hb hb' hlt x hx y hy;obtain⟨d,hd,hx⟩:=aZ1.1 hx;obtain⟨d',hd',hy⟩:=aZ1.1 hy;obtain⟨s,hs,e⟩:=iX1.1 hx;obtain⟨s',hs',e'⟩:=iX1.1 hy;have:=hc s hs;have:=hc s' hs';have:=hm d hd;have:=hm d' hd';omega
theorem dT1 {h m c:List Int} (hh:inR h 23) (hm:inR m 59) (hc:inR c 59):inR (tod h m c) 86399:=by intro x hx;have⟨h1,h2,h3⟩:=(uB1 hm hc x).1 hx;have:=hh _ h1;omega
def dayL (h m c:List Int) (lo hi d:Int):List Int:=((tod h m c).filter fun x=>decide (lo≤x)&&decide (x<hi)).map (fun x=>d*86400+x)
theorem qM {h m c:List Int} (hh:inR h 23) (hm:inR m 59) (hc:inR c 59) (lo hi d x:Int):
  x∈dayL h m c lo hi d↔x/86400=d∧x%86400∈tod h m c∧lo≤x%86400∧x%86400<hi:=by
 unfold dayL;rw[iX1];constructor
 ·rintro⟨z,hz,e⟩;have⟨h1,h2⟩:=dZ1.1 hz;have:=dT1 hh hm hc z h1;have e1:x%86400=z:=by omega
  rw[e1];simp only[oW1,decide_eq_true_eq]at h2;exact⟨by omega,h1,h2.1,h2.2⟩
 ·rintro⟨h1,h2,h3,h4⟩;exact⟨x%86400,dZ1.2 ⟨h2,by simp[h3,h4]⟩,by omega⟩
theorem sR {h m c:List Int} (rh:Rise h) (rm:Rise m) (rc:Rise c) (hm:inR m 59) (hc:inR c 59) (lo hi d:Int):Rise (dayL h m c lo hi d):=by
 refine aW ?_ _ fun x y h=>by omega
 exact List.Pairwise.sublist List.filter_sublist (fO1 rh rm rc hm hc)
def setF (fits:Int→Bool) (h m c:List Int) (lo hi:Int):Nat→Int→List Int
 | 0,_=>[]
 | k+1,d=>(if fits d=true then dayL h m c lo hi d else [])++setF fits h m c lo hi k (d+1)
theorem fW {fits:Int→Bool} {h m c:List Int} (hh:inR h 23) (hm:inR m 59) (hc:inR c 59) (lo hi x:Int):∀(k:Nat) (d:Int),
  x∈setF fits h m c lo hi k d↔d≤x/86400∧x/86400<d+k∧fits (x/86400)=true∧x%86400∈tod h m c∧lo≤x%86400∧x%86400<hi
 | 0,d=>by
  constructor
  ·intro hx;exact absurd hx (by simp[setF])
  ·rintro⟨h1,h2,_⟩;omega
 | k+1,d=>by
  unfold setF;rw[bX1,fW hh hm hc lo hi x k (d+1)];constructor
  ·rintro(h1 | ⟨h1,h2,h3⟩)
   ·by_cases hf:fits d=true
    ·rw[if_pos hf,qM hh hm hc]at h1;obtain⟨e,h1⟩:=h1;rw[e];exact⟨by omega,by omega,hf,h1⟩
    ·rw[if_neg hf]at h1;exact absurd h1 (by simp)
   ·exact⟨by omega,by omega,h3⟩
  ·rintro⟨h1,h2,h3,h4⟩;by_cases e:x/86400=d
   ·rw[e]at h3;rw[if_pos h3,qM hh hm hc];exact Or.inl ⟨e,h4⟩
   ·exact Or.inr ⟨by omega,by omega,h3,h4⟩
theorem rX {fits:Int→Bool} {h m c:List Int} (rh:Rise h) (rm:Rise m) (rc:Rise c) (hh:inR h 23) (hm:inR m 59) (hc:inR c 59) (lo hi:Int):∀(k:Nat) (d:Int),
  Rise (setF fits h m c lo hi k d)
 | 0,_=>qF
 | k+1,d=>by
  unfold setF;rw[bN];refine⟨?_,rX rh rm rc hh hm hc lo hi k (d+1),?_⟩
  ·by_cases hf:fits d=true
   ·rw[if_pos hf];exact sR rh rm rc hm hc lo hi d
   ·rw[if_neg hf];exact qF
  ·intro x hx y hy;have hy:=(fW hh hm hc lo hi y k (d+1)).1 hy;by_cases hf:fits d=true
   ·rw[if_pos hf,qM hh hm hc]at hx;omega
   ·rw[if_neg hf]at hx;exact absurd hx (by simp)
def upTo (n:Nat):List Int:=(List.range n).map fun(j:Nat)=>(j:Int)
theorem gR (n:Nat):upTo (n+1)=upTo n++[(n:Int)]:=by unfold upTo;rw[List.range_succ,dX1];rfl
theorem vW (n:Nat):(upTo n).length=n:=by unfold upTo;simp
theorem pD1 {n:Nat} {x:Int}:x∈upTo n↔0≤x∧x<n:=by
 unfold upTo;rw[iX1];constructor
 ·rintro⟨j,hj,e⟩;have:=List.mem_range.1 hj;omega
 ·rintro⟨h0,h1⟩;exact⟨x.toNat,List.mem_range.2 (by omega),by omega⟩
theorem rZ :∀n,Rise (upTo n)
 | 0=>qF
 | n+1=>by rw[gR,bN];refine⟨rZ n,xD.2 ⟨fun y h=>absurd h (by simp),qF⟩,fun x hx y hy=>?_⟩;have:=pD1.1 hx;have:=oX1.1 hy;omega
theorem sQ1 (all:Nat) (h:all≤1000):∀(k i:Nat),all-i=k→i≤all→kD.l1 (all:Int) (i:Int) (upTo i)=some (upTo all,()):=by
 have hlim:mC=17179869184:=rfl;intro k
 induction k with
 | zero=>
  intro i hk hil;have e:i=all:=by omega
  subst e;rw[kD.l1_eq];simp(disch:=omega)only[ss]
 | succ k ih=>
  intro i hk hil;have hlen:=vW i;have:=ih (i+1) (by omega) (by omega);rw[gR,aY1,bY1]at this;rw[kD.l1_eq];simp(disch:=omega)only[ss,hlen,qX1,hlim];exact this
theorem lL1 (all:Nat) (h:all≤1000):∀(k i:Nat),all-i=k→i≤all→iD.l1 (all:Int) (i:Int) (upTo i)=some (upTo all,()):=by
 have hlim:mC=17179869184:=rfl;intro k
 induction k with
 | zero=>
  intro i hk hil;have e:i=all:=by omega
  subst e;rw[iD.l1_eq];simp(disch:=omega)only[ss]
 | succ k ih=>
  intro i hk hil;have hlen:=vW i;have:=ih (i+1) (by omega) (by omega);rw[gR,aY1,bY1]at this;rw[iD.l1_eq];simp(disch:=omega)only[ss,hlen,qX1,hlim];exact this
def tms (l:List Int) (single:Bool) (n:Int) (all:Nat):List Int:=if l=[]then(if single=true then [n]else upTo all)else l
theorem fL (l:List Int) (single:Bool) (n:Int) (all:Nat) (hl:l.length≤1000000) (hb:all≤100):
  kD.f l single n (all:Int)=some (tms l single n all,())∧qD.f l single n (all:Int)=some (tms l single n all,()):=by
 have hlim:mC=17179869184:=rfl;unfold tms;rw[kD.f_eq,qD.f_eq];by_cases c:l=[]
 ·subst c;have hnil:(([]:List Int).length:Int)=0:=rfl;rw[if_pos rfl]
  cases single with
  | true=>
   rw[if_pos rfl];simp(disch:=omega)only[ss,hnil];exact⟨trivial,trivial⟩
  | false=>
   have hl:=sQ1 all (by omega) all 0 (by omega) (uW1 _);have hv:=lL1 all (by omega) all 0 (by omega) (uW1 _);rw[jX1]at hl hv;rw[if_neg (by simp)];simp(disch:=omega)only[ss,hnil,iD.f_eq];have e:upTo 0=[]:=rfl;rw[e]at hl hv;rw[hl,hv];exact⟨rfl,rfl⟩
 ·have hp:(l.length:Int)>0:=cH.1 c;have hC:iC.f l=some (l,()):=by rw[iC.f_sem];show(bif decide (l.length≤mC)then some (l,())else none)=_;simp(disch:=omega)only[ss,hlim]
  rw[if_neg c];simp(disch:=omega)only[ss,hC,qE l hl];exact⟨trivial,trivial⟩
def okT (x:List Int) (hi:Int):Prop:=Rise x∧inR x hi∧x.length≤60
theorem dR1 {l:List Int} {lo hi:Int} {z:Bool} (h:wi l lo hi z):Rise l:=kC1 fun j h0 hj=>(h.1 j hj).2 h0
theorem pK1 (l:List Int) (single:Bool) (n hi:Int) (all:Nat) (hw:wi l 0 hi true) (hn:0≤n∧n≤hi) (ha:(all:Int)=hi+1) (hb:all≤60):okT (tms l single n all) hi:=by
 unfold tms;by_cases c:l=[]
 ·rw[if_pos c]
  cases single with
  | true=>
   rw[if_pos rfl];refine⟨xD.2 ⟨fun y h=>absurd h (by simp),qF⟩,fun x hx=>?_,by simp⟩;have:=oX1.1 hx;omega
  | false=>
   rw[if_neg (by simp)];refine⟨rZ all,fun x hx=>?_,by rw[vW];exact hb⟩;have:=pD1.1 hx;omega
 ·rw[if_neg c];refine⟨dR1 hw,fun x hx=>?_,hw.2⟩;obtain⟨i,hi1,e⟩:=uW hx;have:=(hw.1 i hi1).1;unfold okI at this;omega
theorem sG1 (r:Rl) (s n:Int) (hr:aI r):∃k,bC.f r s n=some (k,()):=by
 obtain⟨b,hb⟩:=aQ r hr;have hV:=wC1 r hr;rw[hb]at hV;have hT:=(cS s).2;have hlast:∀x:Int,∃k,bC.l2 n x=some (k,()):=fun x=>⟨_,by rw[bC.l2_eq]⟩
 have hl1:∀(x:Int) (c:Bool),∃k,bC.l1 n x c=some (k,()):=fun x c=>by
  rw[bC.l1_eq]
  cases c with
  | true=>rw[cond_true];exact hlast _
  | false=>rw[cond_false];exact hlast _
 have hfin:∀(t:List Int×List Int×List Int×Unit),yE.f r s=some t → ∃k,bC.f r s n=some (k,()):=fun t ht=>by
  rw[bC.f_eq,ht,nW1];by_cases c:(r.2.2.2.2.2.2.2.2.2.2.2.2.2.2.1.length:Int)>0
  ·rw[dp c,cond_true];exact hl1 _ _
  ·rw[dn c,cond_false];exact hl1 _ _
 have hright:gG.f r s=some (b&&decide (-62135596800≤s∧s≤253402300799),()):=by rw[gG.f_eq,←hV,hT];cases b <;> rfl
 by_cases c:b=true∧inT s
 ·obtain⟨rfl,ht⟩:=c;have hD:=(fG s (by unfold inT at ht;omega) (by unfold inT at ht;omega)).2;unfold aI vN at hr;obtain⟨_,_,_,_,_,h6,h7,h8,_⟩:=hr;have t1:∀sg n,qD.f r.2.2.2.2.2.2.2.2.2.2.2.1 sg n 24=some (tms r.2.2.2.2.2.2.2.2.2.2.2.1 sg n 24,()):=fun sg n=>(fL _ sg n 24 (by omega) (by omega)).2
  have t2:∀sg n,qD.f r.2.2.2.2.2.2.2.2.2.2.2.2.1 sg n 60=some (tms r.2.2.2.2.2.2.2.2.2.2.2.2.1 sg n 60,()):=fun sg n=>(fL _ sg n 60 (by omega) (by omega)).2
  have t3:∀sg n,qD.f r.2.2.2.2.2.2.2.2.2.2.2.2.2.1 sg n 60=some (tms r.2.2.2.2.2.2.2.2.2.2.2.2.2.1 sg n 60,()):=fun sg n=>(fL _ sg n 60 (by omega) (by omega)).2
  rw[dp ht]at hright;have hX:∃t,yE.f r s=some t:=by rw[yE.f_eq,hright];simp(disch:=omega)only[ss,hD,t1,t2,t3];exact⟨_,rfl⟩
  obtain⟨t,hX⟩:=hX;exact hfin t hX
 ·have e:(b&&decide (-62135596800≤s∧s≤253402300799))=false:=by
   cases b with
   | false=>rfl
   | true=>rw[dn (fun q=>c ⟨rfl,q⟩)];rfl
  rw[e]at hright;refine hfin ([],[],[],()) ?_;rw[yE.f_eq,hright];simp(disch:=omega)only[ss]
def qF1 (f w:Int) (we:List Int) (n k:Int):Prop:=
 (f=1∧we=[] ∧ ∃m d,vH n k m d)∨(f=1∧we≠[]∧0≤k ∧ ∃j,rT n w k j)∨(f=2 ∧ ∃y m d,vH n y m d∧k=12*y+m)∨(f=3∧k=(n+3-w)/7)∨(f=4∧k=n)
def uY (f w:Int) (we:List Int) (t k:Int):Prop:=(f≤4∧qF1 f w we (t/86400) k)∨(f=5∧k=t/3600)∨(f=6∧k=t/60)∨(f=7∧k=t)
def off (f w:Int):Int:=if f=3 then(if w<3 then 2932895 else 2932896)else 0
theorem mU (t k:Int) (h:inT t) (hk:0<k) (hk2:k≤3600):pI.f t k=some (t/k,())∧True:=by
 obtain⟨e1,e2⟩:=tdm t k hk;have b1:=Int.emod_nonneg t (show k≠0 by omega);have b2:=Int.emod_lt_of_pos t hk;have hq:=Int.emod_add_mul_ediv t k;unfold inT at h;have b3:t/k≤253402300799:=by have:=Int.ediv_le_ediv hk h.2;have:=Int.ediv_le_self k (show(0:Int)≤253402300799 by omega);omega
 have b4: -62135596801≤t/k:=by
  have h5:=Int.ediv_le_ediv hk h.1;have h6: -62135596801 ≤ -62135596800/k:=by refine Int.le_ediv_of_mul_le hk ?_;have:1*62135596801≤k*62135596801:=Int.mul_le_mul_of_nonneg_right (by omega) (by omega);omega
  omega
 constructor
 ·rw[pI.f_eq];by_cases c:t<0
  ·have hd:(0-t+k-1)/k = -(t/k):=by
    by_cases hz:t%k=0
    ·have:0-t+k-1=(k-1)+k*(-(t/k)):=by rw[Int.mul_neg];omega
     rw[this,Int.add_mul_ediv_left _ _ (by omega),Int.ediv_eq_zero_of_lt (by omega) (by omega)];omega
    ·have:0-t+k-1=(k-t%k-1)+k*(-(t/k)):=by rw[Int.mul_neg];omega
     rw[this,Int.add_mul_ediv_left _ _ (by omega),Int.ediv_eq_zero_of_lt (by omega) (by omega)];omega
   have hk0:¬k=0:=by omega
   have e3:0 - -(t/k)=t/k:=by omega
   simp(disch:=omega)only[ss,tdn (show(0:Int)≤0-t+k-1 by omega),hd,e3]
  ·simp(disch:=omega)only[ss,tdn (show(0:Int)≤t by omega)]
 ·trivial
section
variable (f iv ct un wkst : Int) (en : Bool) (mo we yd md : List Int) (dy : List Dy) (ho mi se po : List Int)
theorem jL1 (t:Int) (ht:inT t) (hf:1≤f∧f≤7) (hw:0≤wkst∧wkst≤6) (hl:we.length≤100000):
  ∃k,uY f wkst we t k∧(-300000000000≤k∧k≤300000000000)∧xF.f (f,iv,ct,un,wkst,en,mo,we,yd,md,dy,ho,mi,se,po,()) t=some (k+off f wkst,())∧True:=by
 have hb:=pL ht;obtain⟨y,m,d,hd,e,e'⟩:=xJ (t/86400) hb.1 hb.2;obtain⟨hD,hV⟩:=fG t (by unfold inT at ht;omega) (by unfold inT at ht;omega);obtain⟨q1,q2,q3,q4,_⟩:=gF hd;obtain⟨v1,v2,v3,v4⟩:=lC.1 hd.1;have hof:=mV (t/86400) y m d e;rw[xF.f_eq,hD];simp only[nW1];rw[hof];simp only[nW1];by_cases f1:f=1
 ·subst f1;have ho:off 1 wkst=0:=rfl;by_cases c:we=[]
  ·subst c;have hnil:(([]:List Int).length:Int)=0:=rfl;refine⟨y,.inl ⟨by omega,.inl ⟨rfl,rfl,m,d,hd⟩⟩,by omega,?_,?_⟩
   ·rw[ho,Int.add_zero];simp(disch:=omega)only[ss,sH.f_eq,hnil]
   ·trivial
  ·have hp:=cH.1 c;obtain⟨Y,K,h1,h2,h3,h4,h5,h6,h7⟩:=nR (t/86400) wkst hb.1 hb.2 hw.1 hw.2;refine⟨Y,.inl ⟨by omega,.inr (.inl ⟨rfl,c,h2,K,h1⟩)⟩,by omega,?_,?_⟩
   ·rw[ho,Int.add_zero];simp(disch:=omega)only[ss,sH.f_eq,h6]
   ·trivial
 ·by_cases f2:f=2
  ·subst f2;have ho:off 2 wkst=0:=rfl;refine⟨12*y+m,.inl ⟨by omega,.inr (.inr (.inl ⟨rfl,y,m,d,hd,rfl⟩))⟩,by omega,?_,?_⟩
   ·rw[ho,Int.add_zero];simp(disch:=omega)only[ss]
   ·trivial
  ·by_cases f3:f=3
   ·subst f3;have hk:=mN1 (t/86400);have hm:Int.tmod (wk (t/86400)-wkst+7) 7=(t/86400+3-wkst)%7:=by rw[tmn (by omega)];unfold wk;omega
    have hb7:Int.tdiv (t/86400-(t/86400+3-wkst)%7+20530272) 7=(t/86400+3-wkst)/7+off 3 wkst:=by rw[tdn (by omega)];unfold off;rw[if_pos rfl];split <;> omega
    have ho:off 3 wkst=2932895∨off 3 wkst=2932896:=by unfold off;rw[if_pos rfl];split <;> simp
    refine⟨(t/86400+3-wkst)/7,.inl ⟨by omega,.inr (.inr (.inr (.inl ⟨rfl,rfl⟩)))⟩,by omega,?_,?_⟩
    ·rw[bL.f_eq,zG];simp(disch:=omega)only[ss,hm,hb7]
    ·trivial
   ·have ho:off f wkst=0:=by unfold off;rw[if_neg f3]
    rw[ho];by_cases f4:f=4
    ·subst f4;refine⟨t/86400,.inl ⟨by omega,.inr (.inr (.inr (.inr ⟨rfl,rfl⟩)))⟩,by omega,?_,?_⟩
     ·rw[Int.add_zero];simp(disch:=omega)only[ss]
     ·trivial
    ·by_cases f5:f=5
     ·subst f5;obtain⟨g1,g2⟩:=mU t 3600 ht (by omega) (by omega);refine⟨t/3600,.inr (.inl ⟨rfl,rfl⟩),by unfold inT at ht;omega,?_,?_⟩
      ·rw[Int.add_zero];simp(disch:=omega)only[ss,g1]
      ·trivial
     ·by_cases f6:f=6
      ·subst f6;obtain⟨g1,g2⟩:=mU t 60 ht (by omega) (by omega);refine⟨t/60,.inr (.inr (.inl ⟨rfl,rfl⟩)),by unfold inT at ht;omega,?_,?_⟩
       ·rw[Int.add_zero];simp(disch:=omega)only[ss,g1]
       ·trivial
      ·have f7:f=7:=by omega
       subst f7;refine⟨t,.inr (.inr (.inr ⟨rfl,rfl⟩)),by unfold inT at ht;omega,?_,?_⟩
       ·rw[Int.add_zero];simp(disch:=omega)only[ss]
       ·trivial
end
theorem uM {n y y':Int} (h0:1≤y) (h1:1≤y') (a1:fst_ y≤n) (a2:n<fst_ (y+1)) (b1:fst_ y'≤n) (b2:n<fst_ (y'+1)):y=y':=by
 rcases Int.lt_trichotomy y y' with c | c | c
 ·have:=vD (a:=y+1) (b:=y') (by omega) (by omega);omega
 ·exact c
 ·have:=vD (a:=y'+1) (b:=y) (by omega) (by omega);omega
theorem qW {f w:Int} {we:List Int} {n n' k k':Int} (h:qF1 f w we n k) (g:qF1 f w we n' k') (hn:n≤n'):k≤k':=by
 rcases h with⟨f1,e1,m,d,h⟩ | ⟨f1,e1,h0,j,h⟩ | ⟨f1,y,m,d,h,rfl⟩ | ⟨f1,rfl⟩ | ⟨f1,rfl⟩ <;>
  rcases g with⟨f2,e2,m',d',g⟩ | ⟨f2,e2,g0,j',g⟩ | ⟨f2,y',m',d',g,rfl⟩ | ⟨f2,rfl⟩ | ⟨f2,rfl⟩ <;> first | omega | (exact absurd e1 e2) | (exact absurd e2 e1) | skip
 ·obtain⟨a1,a2,_⟩:=gF h;obtain⟨b1,b2,_⟩:=gF g;obtain⟨v1,_⟩:=lC.1 h.1;obtain⟨v2,_⟩:=lC.1 g.1;refine Int.not_lt.1 fun c=>?_
  have:=vD (a:=k'+1) (b:=k) (by omega) (by omega);omega
 ·refine Int.not_lt.1 fun c=>?_
  have:=yA1 (a:=k'+1) (b:=k) (w:=w) (by omega) (by omega);obtain⟨a1,a2,_⟩:=h;obtain⟨b1,b2,_⟩:=g;omega
 ·obtain⟨a1,a2,a3,a4,_⟩:=gF h;obtain⟨b1,b2,b3,b4,_⟩:=gF g;obtain⟨v1,v1',v1'',v1d⟩:=lC.1 h.1;obtain⟨v2,v2',v2'',v2d⟩:=lC.1 g.1;have h2:=h.2;have g2:=g.2;rcases Int.lt_trichotomy y y' with c | c | c
  ·omega
  ·subst c;refine Int.not_lt.1 fun c=>?_
   have cs:=nE y m' b3 b4;have:=xK y (a:=m'+1) (b:=m) (by omega) (by omega) (by omega);omega
  ·have:=vD (a:=y'+1) (b:=y) (by omega) (by omega);omega
theorem qV {f w:Int} {we:List Int} {t t' k k':Int} (h:uY f w we t k) (g:uY f w we t' k') (ht:t≤t'):k≤k':=by
 rcases h with⟨a,h⟩ | ⟨a,rfl⟩ | ⟨a,rfl⟩ | ⟨a,rfl⟩ <;> rcases g with⟨b,g⟩ | ⟨b,rfl⟩ | ⟨b,rfl⟩ | ⟨b,rfl⟩ <;> first | omega | skip
 exact qW h g (by omega)
def isIv (f w:Int) (we:List Int) (n A B:Int):Prop:=
 (f=1∧we=[] ∧ ∃y,1≤y∧y≤9999∧fst_ y≤n∧n<fst_ (y+1)∧A=fst_ y∧B=fst_ (y+1)-1) ∨
 (f=1∧we≠[] ∧ ∃Y,0≤Y∧Y≤10000∧w1 Y w≤n∧n<w1 (Y+1) w∧A=(if w1 Y w < -719162 then -719162 else w1 Y w)∧B=(if w1 (Y+1) w-1>2932896 then 2932896 else w1 (Y+1) w-1)) ∨
 (f=2 ∧ ∃y m,1≤y∧y≤9999∧1≤m∧m≤12∧fst_ y+cum y m≤n∧n<fst_ y+cum y (m+1)∧A=fst_ y+cum y m∧B=fst_ y+cum y (m+1)-1) ∨
 (f=3∧A=(if n-(n+3-w)%7 < -719162 then -719162 else n-(n+3-w)%7)∧B=(if n-(n+3-w)%7+6>2932896 then 2932896 else n-(n+3-w)%7+6)) ∨
 (f=4∧A=n∧B=n)
theorem nS1 {f w:Int} {we:List Int} {n A B:Int} (h:isIv f w we n A B) (hn: -719162≤n∧n≤2932896):A≤n∧n≤B ∧ -719162≤A∧B≤2932896:=by
 rcases h with⟨_,_,y,h1,h2,h3,h4,rfl,rfl⟩ | ⟨_,_,Y,h1,h2,h3,h4,rfl,rfl⟩ | ⟨_,y,m,h1,h2,h3,h4,h5,h6,rfl,rfl⟩ | ⟨_,rfl,rfl⟩ | ⟨_,rfl,rfl⟩
 ·have a:=vD (a:=1) (b:=y) (by omega) h1;have b:=vD (a:=y+1) (b:=10000) (by omega) (by omega);rw[tE1]at a;rw[uH]at b;omega
 ·split <;> split <;> omega
 ·have a:=vD (a:=1) (b:=y) (by omega) h1;have b:=vD (a:=y+1) (b:=10000) (by omega) (by omega);have c:=aG y h1;have d:=xK y (a:=m+1) (b:=13) (by omega) (by omega) (by omega);have e:=jL y m;rw[tE1]at a;rw[uH]at b;omega
 ·split <;> split <;> omega
 ·omega
theorem xH1 {f w:Int} {we:List Int} {n k A B x k':Int} (h:isIv f w we n A B) (hn:qF1 f w we n k) (hx:qF1 f w we x k') (hr: -719162≤x∧x≤2932896):
  (A≤x∧x≤B→k'=k)∧(x=A-1→k'=k-1)∧(x=B+1→k'=k+1):=by
 rcases h with⟨f1,e1,y,h1,h2,h3,h4,rfl,rfl⟩ | ⟨f1,e1,Y,h1,h2,h3,h4,hA,hB⟩ | ⟨f1,y,m,h1,h2,h3,h4,h5,h6,rfl,rfl⟩ | ⟨f1,hA,hB⟩ | ⟨f1,rfl,rfl⟩ <;>
  rcases hn with⟨f2,e2,m1,d1,g⟩ | ⟨f2,e2,g0,j1,g⟩ | ⟨f2,y1,m1,d1,g,rfl⟩ | ⟨f2,rfl⟩ | ⟨f2,rfl⟩ <;> first | omega | (exact absurd e1 e2) | (exact absurd e2 e1) | skip <;>
  rcases hx with⟨f3,e3,m2,d2,q⟩ | ⟨f3,e3,q0,j2,q⟩ | ⟨f3,y2,m2,d2,q,rfl⟩ | ⟨f3,rfl⟩ | ⟨f3,rfl⟩ <;> first | omega | (exact absurd e1 e3) | (exact absurd e3 e1) | skip
 ·-- years
  obtain⟨a1,a2,_⟩:=gF g;obtain⟨b1,b2,_⟩:=gF q;obtain⟨v1,v1',_⟩:=lC.1 g.1;obtain⟨v2,v2',_⟩:=lC.1 q.1;have ek:k=y:=uM v1 h1 a1 a2 h3 h4;subst ek;refine⟨fun r=>uM v2 v1 b1 b2 r.1 (by omega),fun r=>?_,fun r=>?_⟩
  ·have s:=bJ (k-1) (by omega);rw[show k-1+1=k by omega]at s;rcases Int.lt_or_le 1 k with c | c
   ·exact uM v2 (by omega) b1 b2 (by omega) (by rw[show k-1+1=k by omega];omega)
   ·have:k=1:=by omega
    subst this;have:=tE1;omega
  ·have s:=bJ (k+1) (by omega);exact uM v2 (by omega) b1 b2 (by omega) (by omega)
 ·-- years by weeks
  obtain⟨a1,a2,_⟩:=g;obtain⟨b1,b2,_⟩:=q;have ek:k=Y:=(mM (n:=n) (w:=w) (k:=(n-w1 k w)/7+1) (k':=(n-w1 Y w)/7+1) g0 h1 ⟨a1,a2,rfl⟩ ⟨h3,h4,rfl⟩).1;subst ek;have uq:∀z,0≤z→w1 z w≤x→x<w1 (z+1) w→k'=z:=fun z z0 z1 z2=>(mM (n:=x) (w:=w) (k:=(x-w1 k' w)/7+1) (k':=(x-w1 z w)/7+1) q0 z0 ⟨b1,b2,rfl⟩ ⟨z1,z2,rfl⟩).1
  have n0:=tH k w;have n1:=tH (k+1) w;refine⟨fun r=>uq k g0 ?_ ?_,fun r=>?_,fun r=>?_⟩
  ·rw[hA]at r;split at r <;> omega
  ·rw[hB]at r;obtain⟨_,r⟩:=r;split at r <;> omega
  ·rw[hA]at r;split at r
   ·omega
   ·rcases Int.lt_or_le 0 k with c | c
    ·have s:=yJ (k-1) w (by omega);rw[show k-1+1=k by omega]at s;exact uq (k-1) (by omega) (by omega) (by rw[show k-1+1=k by omega];omega)
    ·have:k=0:=by omega
     subst this;have f0:fst_ 0 = -719528:=by decide
     omega
  ·rw[hB]at r;split at r
   ·omega
   ·have s:=yJ (k+1) w (by omega);exact uq (k+1) (by omega) (by omega) (by omega)
 ·-- months
  obtain⟨a1,a2,a3,a4,_⟩:=gF g;obtain⟨b1,b2,b3,b4,_⟩:=gF q;obtain⟨v1,v1',v1a,v1b⟩:=lC.1 g.1;obtain⟨v2,v2',v2a,v2b⟩:=lC.1 q.1;have c1:=nE y1 m1 a3 a4;have c2:=nE y2 m2 b3 b4;have g2:=g.2;have q2:=q.2
  have uq:∀(z u n' m' d' y':Int),vH n' y' m' d'→1≤z→z≤9999→1≤u→u≤12→fst_ z+cum z u≤n'→n'<fst_ z+cum z (u+1)→y'=z∧m'=u:=fun z u n' m' d' y' hd z1 z2 u1 u2 r1 r2=>by
   have hb:=nE z u u1 u2;have hu:vH n' z u (n'-fst_ z-cum z u+1):=⟨lC.2 ⟨z1,z2,by omega,by omega⟩,by omega⟩
   obtain⟨e1,e2,_⟩:=qQ hd hu;exact⟨e1,e2⟩
  obtain⟨ey,em⟩:=uq y m n m1 d1 y1 g h1 h2 h3 h4 h5 h6;subst ey em;refine⟨fun r=>?_,fun r=>?_,fun r=>?_⟩
  ·obtain⟨e3,e4⟩:=uq y1 m1 x m2 d2 y2 q h1 h2 h3 h4 r.1 (by omega);rw[e3,e4]
  ·by_cases cm:m1=1
   ·subst cm;have c0:=qA1 y1;have s:=bJ (y1-1) (by omega);rw[show y1-1+1=y1 by omega]at s;rcases Int.lt_or_le 1 y1 with cy | cy
    ·have s':=aG (y1-1) (by omega);rw[show y1-1+1=y1 by omega]at s';have h13:=nE (y1-1) 12 (by omega) (by omega);have hl:=kK (y1-1) 12;have hl2:mlen (y1-1) 12=31:=by unfold mlen;simp
     obtain⟨e3,e4⟩:=uq (y1-1) 12 x m2 d2 y2 q (by omega) (by omega) (by omega) (by omega) (by rw[show(12:Int)+1=13 from rfl]at h13;omega) (by rw[show(12:Int)+1=13 from rfl];omega);rw[e3,e4];omega
    ·have:y1=1:=by omega
     subst this;have:=tE1;omega
   ·have hs:=nE y1 (m1-1) (by omega) (by omega);rw[show m1-1+1=m1 by omega]at hs;have hl:28≤mlen y1 (m1-1):=by
     unfold mlen;split
     ·split <;> omega
     ·split
      ·omega
      ·rw[if_pos ⟨by omega,by omega⟩];omega
    obtain⟨e3,e4⟩:=uq y1 (m1-1) x m2 d2 y2 q (by omega) (by omega) (by omega) (by omega) (by omega) (by rw[show m1-1+1=m1 by omega];omega);rw[e3,e4];omega
  ·by_cases cm:m1=12
   ·subst cm;have s':=aG y1 (by omega);have c0:=qA1 (y1+1);have c3:=nE (y1+1) 1 (by omega) (by omega);have hl2:mlen (y1+1) 1=31:=by unfold mlen;simp
    rw[show(12:Int)+1=13 from rfl]at r;have b9:=vD (a:=y1+1) (b:=10000) (by omega) (by omega);rw[uH]at b9;rcases Int.lt_or_le y1 9999 with cy | cy
    ·obtain⟨e3,e4⟩:=uq (y1+1) 1 x m2 d2 y2 q (by omega) (by omega) (by omega) (by omega) (by omega) (by omega);rw[e3,e4];omega
    ·have:y1=9999:=by omega
     subst this;have:fst_ (9999+1)=2932897:=uH;omega
   ·have hs:=nE y1 (m1+1) (by omega) (by omega);have hl:28≤mlen y1 (m1+1):=by
     unfold mlen;split
     ·split <;> omega
     ·split
      ·omega
      ·rw[if_pos ⟨by omega,by omega⟩];omega
    obtain⟨e3,e4⟩:=uq y1 (m1+1) x m2 d2 y2 q (by omega) (by omega) (by omega) (by omega) (by omega) (by omega);rw[e3,e4];omega
theorem jan1 (y:Int) (h1:1≤y) (h2:y≤9999):yF.f y 1 1=some (fst_ y,0,()):=by
 have hv:mK y 1 1=true:=lC.2 ⟨h1,h2,by omega,by unfold mlen;simp⟩;have:=qA1 y;have e:fst_ y+1-1+cum y 1=fst_ y:=by omega
 rw[iZ,if_pos hv,e]
theorem gF1 (y w:Int) (h1:0≤y) (h2:y≤10001) (hw:0≤w∧w≤6):zC.l1 w (fst_ y)=some (w1 y w,()):=by
 have hb:=nI y h1 h2;have hk:=mN1 (fst_ y);rw[zC.l1_eq,zG];simp(disch:=omega)only[ss,tmn (show(0:Int)≤wk (fst_ y)-w+7 by omega)];unfold w1;by_cases c:(wk (fst_ y)-w+7)%7≤3
 ·simp(disch:=omega)only[ss]
  congr 2
  unfold wk at *;omega
 ·simp(disch:=omega)only[ss]
  congr 2
  unfold wk at *;omega
theorem wO (y w:Int) (h1:0≤y) (h2:y≤10001) (hw:0≤w∧w≤6):zC.f y w=some (if y<1 then -719169 else if y>10000 then 2932903 else w1 y w,()):=by
 rw[zC.f_eq];by_cases c1:y<1
 ·rw[if_pos c1];simp(disch:=omega)only[ss]
 ·rw[if_neg c1];by_cases c2:y>10000
  ·rw[if_pos c2];simp(disch:=omega)only[ss]
  ·rw[if_neg c2];have hl:=gF1 y w h1 h2 hw;by_cases c3:y≤9999
   ·simp(disch:=omega)only[ss,jan1 y (by omega) c3,hl]
   ·have:y=10000:=by omega
    subst this;rw[uH]at hl;simp(disch:=omega)only[ss,hl]
theorem jE1 (a b:Int):gL.f a b=some (if a < -719162 then -719162 else a,if b>2932896 then 2932896 else b,()):=by rw[gL.f_eq];simp only[mm,cond_true,cond_false,gt_iff_lt]
section
variable (f iv ct un wkst : Int) (en : Bool) (mo we yd md : List Int) (dy : List Dy) (ho mi se po : List Int)
theorem yG1 (s sec n0 y0 m0 d0 w0 t:Int) (ht:inT t) (hf:1≤f∧f≤7) (hw:0≤wkst∧wkst≤6) (hl:we.length≤100000):
  ∃A B,(f≤4→isIv f wkst we (t/86400) A B)∧(4<f→A=t/86400∧B=t/86400)∧vC.f ((f,iv,ct,un,wkst,en,mo,we,yd,md,dy,ho,mi,se,po,()),s,(n0,y0,m0,d0,w0,()),sec,()) t=some (A,B,()):=by
 have hb:=pL ht;obtain⟨y,m,d,hd,e,e'⟩:=xJ (t/86400) hb.1 hb.2;obtain⟨hD,_⟩:=fG t (by unfold inT at ht;omega) (by unfold inT at ht;omega);obtain⟨q1,q2,q3,q4,_⟩:=gF hd;obtain⟨v1,v2,v3,v4⟩:=lC.1 hd.1;have hof:=mV (t/86400) y m d e;have heq:=hd.2;rw[vC.f_eq,hD];simp only[nW1];rw[hof];simp only[nW1];by_cases f1:f=1
 ·subst f1;by_cases c:we=[]
  ·subst c;have hnil:(([]:List Int).length:Int)=0:=rfl;have hs:=aG y v1;have h13:=nE1 y;have hfb:=nI y (by omega) (by omega);have e3:fst_ y+cum y 13-1=fst_ (y+1)-1:=by omega
   refine⟨fst_ y,fst_ (y+1)-1,fun _=>.inl ⟨rfl,rfl,y,v1,v2,q1,q2,rfl,rfl⟩,fun q=>by omega,?_⟩;simp(disch:=omega)only[ss,bG.f_eq,hnil,jan1 y v1 v2,qR y (by omega),e3]
  ·have hp:=cH.1 c;obtain⟨Y,K,h1,h2,h3,h4,h5,h6,_⟩:=nR (t/86400) wkst hb.1 hb.2 hw.1 hw.2;obtain⟨a1,a2,_⟩:=h1;have o1:=wO Y wkst h2 (by omega) hw;have o2:=wO (Y+1) wkst (by omega) (by omega) hw;have n0':=tH Y wkst;have n1':=tH (Y+1) wkst;have b0:=nI Y h2 (by omega);have b1:=nI (Y+1) (by omega) (by omega);have f0:fst_ 0 = -719528:=by decide
   have f10:fst_ 10001=2933263:=by decide
   refine⟨_,_,fun _=>.inr (.inl ⟨rfl,c,Y,h2,h3,a1,a2,rfl,rfl⟩),fun q=>by omega,?_⟩
   have fin:∀v1 v2:Int,v1=(if Y<1 then -719169 else if Y>10000 then 2932903 else w1 Y wkst)→v2=(if Y+1<1 then -719169 else if Y+1>10000 then 2932903 else w1 (Y+1) wkst) →
     (if v1 < -719162 then -719162 else v1)=(if w1 Y wkst < -719162 then -719162 else w1 Y wkst)∧(if v2-1>2932896 then 2932896 else v2-1)=(if w1 (Y+1) wkst-1>2932896 then 2932896 else w1 (Y+1) wkst-1)∧(-10000000≤v2∧v2≤10000000):=fun v1 v2 e1 e2=>by
    have hv1:(v1 = -719169∧Y=0)∨v1=w1 Y wkst:=by
     by_cases cY:Y<1
     ·rw[if_pos cY]at e1;exact .inl ⟨e1,by omega⟩
     ·rw[if_neg cY,if_neg (by omega)]at e1;exact .inr e1
    have hv2:(v2=2932903∧Y=10000)∨v2=w1 (Y+1) wkst:=by
     rw[if_neg (by omega)]at e2;by_cases cY:Y+1>10000
     ·rw[if_pos cY]at e2;exact .inl ⟨e2,by omega⟩
     ·rw[if_neg cY]at e2;exact .inr e2
    refine⟨?_,?_,?_⟩
    ·rcases hv1 with⟨e3,e4⟩ | e3
     ·subst e4;rw[e3];split <;> split <;> omega
     ·rw[e3]
    ·rcases hv2 with⟨e3,e4⟩ | e3
     ·subst e4;have n2:fst_ (10000+1)=2933263:=f10;rw[e3];split <;> split <;> omega
     ·rw[e3]
    ·rcases hv2 with⟨e3,_⟩ | e3 <;> rw[e3] <;> omega
   obtain⟨g1,g2,g3⟩:=fin _ _ rfl rfl;rw[←g1,←g2];simp(disch:=omega)only[ss,bG.f_eq,sH.f_eq,h6,o1,o2,jE1]
 ·by_cases f2:f=2
  ·subst f2;have hc:=nE y m q3 q4;have hml:=kK y m;have e1:t/86400-d+1=fst_ y+cum y m:=by omega
   have e2:t/86400-d+mlen y m=fst_ y+cum y (m+1)-1:=by omega
   refine⟨fst_ y+cum y m,fst_ y+cum y (m+1)-1,fun _=>.inr (.inr (.inl ⟨rfl,y,m,v1,v2,q3,q4,by omega,by omega,rfl,rfl⟩)),fun q=>by omega,?_⟩;simp(disch:=omega)only[ss,sG y m (by omega),e1,e2]
  ·by_cases f3:f=3
   ·subst f3;have hk:=mN1 (t/86400);have hm:Int.tmod (wk (t/86400)-wkst+7) 7=(t/86400+3-wkst)%7:=by rw[tmn (by omega)];unfold wk;omega
    have e6:t/86400-(t/86400+3-wkst)%7+7-1=t/86400-(t/86400+3-wkst)%7+6:=by omega
    refine⟨_,_,fun _=>.inr (.inr (.inr (.inl ⟨rfl,rfl,rfl⟩))),fun q=>by omega,?_⟩;simp(disch:=omega)only[ss,hm,e6,jE1]
   ·refine⟨t/86400,t/86400,fun q=>.inr (.inr (.inr (.inr ⟨by omega,rfl,rfl⟩))),fun _=>⟨rfl,rfl⟩,?_⟩;simp(disch:=omega)only[ss]
end
end Go.GV.YtegmfagkklekaaaGreatDoor
