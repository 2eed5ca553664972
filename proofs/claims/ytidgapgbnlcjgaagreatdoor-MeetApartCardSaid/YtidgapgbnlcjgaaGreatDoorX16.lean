/-
Part of the words that the laws of this seat are proved with: no statement of its own, no conditions.
-/
import Derived.Test.YtidgapgbnlcjgaaGreatDoorX15
set_option linter.unusedVariables false
set_option linter.unusedSimpArgs false
namespace Go.GV
theorem wr {x:Int} (h1: -9223372036854775808≤x) (h2:x≤9223372036854775807):w6 x=x:=Go.IntWalk.i64_in x ⟨h1,h2⟩
theorem xV1 {n:Nat} (h:n<9223372036854775807):w6 ((n:Int)+1)=((n+1:Nat):Int):=by rw[wr (by omega) (by omega)];omega
theorem dp {p:Prop} [Decidable p] (h:p):decide p=true:=decide_eq_true h
theorem dn {p:Prop} [Decidable p] (h:¬p):decide p=false:=decide_eq_false h
theorem gV1 (n m:Nat):((n:Int)+(m:Int)).toNat=n+m:=by omega
theorem gT1 (n:Nat):((n:Int)+1).toNat=n+1:=by omega
theorem kU1 (n:Nat):((n:Int)-1).toNat=n-1:=by omega
theorem tn_0 :(0:Int).toNat=0:=rfl
theorem tn_1 :(1:Int).toNat=1:=rfl
theorem ss :(∀(p:Prop) [Decidable p],p→decide p=true)∧(∀(p:Prop) [Decidable p],¬p→decide p=false)∧(∀(h:Decidable True),@decide True h=true)∧(∀(h:Decidable False),@decide False h=false) ∧
  ((!true)=false)∧((!false)=true)∧(∀b,(true&&b)=b)∧(∀b,(false&&b)=false)∧(∀b,(b&&true)=b)∧(∀b,(b&&false)=false) ∧
  (∀b,(true||b)=true)∧(∀b,(false||b)=b)∧(∀b,(b||true)=true)∧(∀b,(b||false)=b)∧(∀(x:Int),-9223372036854775808≤x→x≤9223372036854775807→w6 x=x) ∧
  (∀n m:Nat,((n:Int)+(m:Int)).toNat=n+m)∧(∀n:Nat,((n:Int)+1).toNat=n+1)∧(∀n:Nat,((n:Int)-1).toNat=n-1)∧((0:Int).toNat=0)∧((1:Int).toNat=1)∧(∀n:Nat,(n:Int).toNat=n) ∧
  (∀(α:Type) (a b:α),(bif true then a else b)=a)∧(∀(α:Type) (a b:α),(bif false then a else b)=b)∧(∀(α β:Type) (a:α) (f:α→Option β),(some a).bind f=f a):=
 ⟨fun _=>dp,fun _=>dn,fun _=>decide_true _,fun _=>decide_false _,rfl,rfl,Bool.true_and,Bool.false_and,rC2,Bool.and_false,Bool.true_or,Bool.false_or,Bool.or_true,Bool.or_false,fun _=>wr,gV1,gT1,kU1,tn_0,tn_1,fun _=>rfl,fun _ _ _=>rfl,fun _ _ _=>rfl,fun _ _ _ _=>rfl⟩
abbrev B (s:ByteArray):List UInt8:=s.data.toList
def mkS (l:List UInt8):ByteArray:=⟨l.toArray⟩
theorem B_mk (l:List UInt8):B (mkS l)=l:=rfl
theorem mk_B (s:ByteArray):mkS (B s)=s:=rfl
theorem hO1 {a b:ByteArray} (h:B a=B b):a=b:=by rw[←mk_B a,←mk_B b,h]
theorem qR1 (s:ByteArray):s.size=(B s).length:=by cases s;simp[ByteArray.size,B]
theorem rW1 (s:ByteArray) (a b:Nat):B (s.extract a b)=((B s).drop a).take (b-a):=by obtain⟨⟨l⟩⟩:=s;rw[ByteArray.extract_mk]
theorem vE1 (s:ByteArray):s.toList=B s:=ByteArray.toList_eq s
theorem xY1 (a b:ByteArray):(a.toList==b.toList)=decide (a=b):=by rw[vE1,vE1,Bool.eq_iff_iff,beq_iff_eq,decide_eq_true_eq];exact⟨hO1,fun h=>by rw[h]⟩
theorem aW1 (s:ByteArray) (k:Nat):B (s.extract 0 k)=(B s).take k:=by rw[rW1];simp
theorem tR1 (s:ByteArray) (k:Nat):B (s.extract k s.size)=(B s).drop k:=by rw[rW1,qR1,zZ1 (by simp)]
theorem lN {α:Type} (a b:List α) (i:Nat) (d:α) (h:i<a.length):(a++b).getD i d=a.getD i d:=by simp[kZ1,jA2 h]
def I (l:List UInt8):List Int:=l.map fun b=>(b.toNat:Int)
theorem okI {a:List Int} (h:∀x∈a,rN1 .u8 x):a=I (a.map fun n=>UInt8.ofNat n.toNat):=by simp only[I,List.map_map];refine(List.map_id a).symm.trans (uC2 fun x hx=>?_);have h1:=h x hx;simp only[rN1]at h1;have h2:(0:Int)≤x∧x≤255:=h1;simp only[Function.comp,id,UInt8.toNat_ofNat'];omega
theorem mK1 {α:Type} (l:List α) (i:Nat) (d:α) (h:i<l.length):l.drop i=l.getD i d::l.drop (i+1):=by rw[kZ1,qZ1 h,xB2];exact List.drop_eq_getElem_cons h
theorem mR {α:Type} (o:List α) (p z:α):(o++[p]).getD o.length z=p:=by simp[kZ1]
theorem kO1 {α:Type} (o:List α) (p v:α):(o++[p]).set o.length v=o++[v]:=by simp
theorem uD {α:Type} (o:List α) (p:α):(o++[p]).length=o.length+1:=by simp
theorem yX {n:Nat} (h0:0<n) (h:n<4611686018427387904):w6 ((n:Int)-1)=((n-1:Nat):Int):=by rw[wr (by omega) (by omega)];omega
theorem wU1 {n:Nat} (h:n<4611686018427387904):w6 ((n:Int)+1)=((n+1:Nat):Int):=xV1 (by omega)
theorem eH {α:Type} (l:List α):l=[] ∨ ∃o p,l=o++[p]:=by
 rcases List.eq_nil_or_concat l with h | ⟨o,p,h⟩
 ·exact .inl h
 ·exact .inr ⟨o,p,by simpa using h⟩
theorem rO {α:Type} {l:List α} {i:Nat} (z:α) (h:i<l.length):l.getD i z=l[i]:=by simp[kZ1,h]
theorem qK {α:Type} {l:List α} {i:Nat} (z:α) (h:i<l.length):l.getD i z∈l:=by rw[rO z h];exact List.getElem_mem h
theorem vB {α:Type} {l:List α} {i:Nat} (z:α) (h:i<l.length):l.drop i=l.getD i z::l.drop (i+1):=mK1 l i z h
theorem zG {α:Type} {l:List α} {i:Nat} (z:α) (h:i<l.length):l.take (i+1)=l.take i++[l.getD i z]:=by rw[List.take_add_one,qZ1 h,rO z h];rfl
theorem xR (a b:Int):mm true a b=max a b:=by unfold mm;simp only[cond_true];split <;> omega
theorem uM1 (a b:Int):mm false a b=min a b:=by unfold mm;simp only[cond_false];split <;> omega
end Go.GV
namespace Go.GV.YtidgapgbnlcjgaaGreatDoor
open Go.Proofs
def xP (y:Int):Bool:=decide (y%4=0)&&(!decide (y%100=0)||decide (y%400=0))
def mlen (y m:Int):Int:=if m=2 then(if xP y=true then 29 else 28)else if m=4∨m=6∨m=9∨m=11 then 30 else if 1≤m∧m≤12 then 31 else 0
def cumT (m:Int):Int:=if m≤1 then 0 else if m=2 then 31 else if m=3 then 59 else if m=4 then 90 else if m=5 then 120 else if m=6 then 151 else if m=7 then 181 else if m=8 then 212 else if m=9 then 243 else if m=10 then 273 else if m=11 then 304 else if m=12 then 334 else 365
def cum (y m:Int):Int:=cumT m+if 3≤m∧xP y=true then 1 else 0
def fst_ (y:Int):Int:=365*(y-1)+(y-1)/4-(y-1)/100+(y-1)/400-719162
theorem tmn {n:Int} (h:0≤n) (k:Int):Int.tmod n k=n%k:=Int.tmod_eq_emod_of_nonneg h
theorem tdn {n:Int} (h:0≤n) (k:Int):Int.tdiv n k=n/k:=Int.tdiv_eq_ediv_of_nonneg h
theorem hA1 (y:Int) (hy:0≤y):vH.f y=some (xP y,()):=by
 rw[vH.f_eq];simp only[tmn hy];unfold xP;by_cases h1:y%4=0
 ·by_cases h2:y%100=0
  ·by_cases h3:y%400=0
   ·simp(disch:=omega)only[ss]
   ·simp(disch:=omega)only[ss]
  ·simp(disch:=omega)only[ss]
 ·simp(disch:=omega)only[ss]
theorem cG (y m:Int) (hy:0≤y):cB.f y m=some (mlen y m,()):=by
 have hL:=hA1 y hy;rw[cB.f_eq];unfold mlen;by_cases h2:m=2
 ·subst h2;simp(disch:=omega)only[ss,cB.l1_eq,hL];cases xP y <;> rfl
 ·rw[if_neg h2];by_cases h4:m=4∨m=6∨m=9∨m=11
  ·rw[if_pos h4];rcases h4 with rfl | rfl | rfl | rfl
   all_goals (simp(disch:=omega)only[ss,cB.l1_eq])
  ·rw[if_neg h4];by_cases hr:1≤m∧m≤12
   ·rw[if_pos hr];have:m=1∨m=3∨m=5∨m=7∨m=8∨m=10∨m=12:=by omega
    rcases this with rfl | rfl | rfl | rfl | rfl | rfl | rfl
    all_goals (simp(disch:=omega)only[ss,cB.l1_eq,cB.l2_eq])
   ·rw[if_neg hr];simp(disch:=omega)only[ss,cB.l1_eq,cB.l2_eq]
theorem eJ (y m:Int):0≤mlen y m∧mlen y m≤31∧(0<mlen y m→1≤m∧m≤12):=by
 unfold mlen;split
 ·cases xP y <;> (simp;omega)
 ·split
  ·omega
  ·split <;> omega
theorem sD (y m:Int) (h1:1≤m) (h2:m≤12):cum y (m+1)=cum y m+mlen y m:=by
 have:m=1∨m=2∨m=3∨m=4∨m=5∨m=6∨m=7∨m=8∨m=9∨m=10∨m=11∨m=12:=by omega
 unfold cum mlen cumT;cases xP y <;> (rcases this with rfl | rfl | rfl | rfl | rfl | rfl | rfl | rfl | rfl | rfl | rfl | rfl <;> simp)
theorem mK (y m:Int):0≤cum y m∧cum y m≤366:=by unfold cum cumT;split <;> (try split) <;> (repeat' split) <;> omega
def oK (y m d:Int):Bool:=decide (1≤y)&&decide (y≤9999)&&decide (1≤d)&&decide (d≤mlen y m)
theorem wH1 (y m d:Int):aI.f y m d=some (oK y m d,()):=by
 rw[aI.f_eq,jG.f_eq];unfold oK;by_cases h1:1≤y
 ·have hL:=cG y m (by omega);by_cases h2:y≤9999
  ·by_cases h3:1≤d
   ·simp(disch:=omega)only[ss,hL,ge_iff_le]
   ·simp(disch:=omega)only[ss,hL,ge_iff_le]
  ·simp(disch:=omega)only[ss,ge_iff_le]
 ·simp(disch:=omega)only[ss,ge_iff_le]
theorem dL (y m d:Int) (hy:1≤y) (hy2:y≤10000) (hm:1≤m) (hm2:m≤12) (hd:1≤d) (hd2:d≤31):vC.f y m d=some (fst_ y+d-1+cum y m,()):=by
 rw[vC.f_eq];by_cases h3:m<3
 ·simp(disch:=omega)only[ss,tdn (show 0≤y-1+400 by omega),tdn (show 0≤153*(m+12-3)+2 by omega)]
  congr 2
  unfold fst_ cum cumT;have:m=1∨m=2:=by omega
  rcases this with rfl | rfl
  ·simp;omega
  ·simp;omega
 ·simp(disch:=omega)only[ss,tdn (show 0≤y+400 by omega),tdn (show 0≤153*(m-3)+2 by omega)]
  congr 2
  unfold fst_ cum cumT
  have e:(if 3≤m∧xP y=true then(1:Int)else 0)=y/4-(y-1)/4-(y/100-(y-1)/100)+(y/400-(y-1)/400):=by
   unfold xP;by_cases h1:y%4=0
   ·by_cases h2:y%100=0
    ·by_cases h5:y%400=0
     ·rw[if_pos ⟨by omega,by simp[h1,h2,h5]⟩];omega
     ·rw[if_neg (by simp[h1,h2,h5])];omega
    ·rw[if_pos ⟨by omega,by simp[h1,h2]⟩];omega
   ·rw[if_neg (by simp[h1])];omega
  rw[e];have:m=3∨m=4∨m=5∨m=6∨m=7∨m=8∨m=9∨m=10∨m=11∨m=12:=by omega
  rcases this with rfl | rfl | rfl | rfl | rfl | rfl | rfl | rfl | rfl | rfl
  all_goals (simp;omega)
theorem wS (y:Int) (hy:1≤y) (hy2:y≤10001): -1000000≤fst_ y∧fst_ y≤4000000:=by unfold fst_;omega
theorem rA1 (y m d:Int):gG.f y m d=some (if oK y m d=true then(fst_ y+d-1+cum y m,0,())else(0,1,())):=by
 have h1:=wH1 y m d;rw[gG.f_eq,h1]
 cases hv:oK y m d with
 | false=>rfl
 | true=>
  unfold oK at hv;simp only[iZ1,decide_eq_true_eq]at hv;obtain⟨⟨⟨h3,h4⟩,h5⟩,h6⟩:=hv;have hb:=eJ y m;have hm:=hb.2.2 (by omega);have hN:=dL y m d h3 (by omega) hm.1 hm.2 h5 (by omega);have hfb:=wS y h3 (by omega);have hcb:=mK y m;rw[if_pos rfl];simp(disch:=omega)only[ss,hN]
theorem bG (y:Int) (hy:1≤y):fst_ (y+1)=fst_ y+cum y 13:=by
 unfold fst_ cum cumT
 have e:(if 3≤(13:Int)∧xP y=true then(1:Int)else 0)=y/4-(y-1)/4-(y/100-(y-1)/100)+(y/400-(y-1)/400):=by
  unfold xP;by_cases h1:y%4=0
  ·by_cases h2:y%100=0
   ·by_cases h5:y%400=0
    ·rw[if_pos ⟨by omega,by simp[h1,h2,h5]⟩];omega
    ·rw[if_neg (by simp[h1,h2,h5])];omega
   ·rw[if_pos ⟨by omega,by simp[h1,h2]⟩];omega
  ·rw[if_neg (by simp[h1])];omega
 rw[e];simp;omega
theorem fH1 (y:Int):365≤cum y 13∧cum y 13≤366:=by unfold cum cumT;split <;> (simp;try omega)
theorem oE1 {a b:Int} (h0:1≤a) (h:a<b):fst_ a+365≤fst_ b:=by
 obtain⟨k,hk⟩:=Int.eq_ofNat_of_zero_le (show 0≤b-a-1 by omega);have e:b=a+1+(k:Int):=by omega
 subst e;clear hk h
 induction k with
 | zero=>
  have:=bG a h0;have:=fH1 a;simp;omega
 | succ k ih=>
  have:=bG (a+1+(k:Int)) (by omega);have:=fH1 (a+1+(k:Int));rw[show a+1+((k+1:Nat):Int)=a+1+(k:Int)+1 by omega];omega
theorem pC {a b:Int} (h0:1≤a) (h:a≤b):fst_ a≤fst_ b:=by
 rcases Int.lt_or_eq_of_le h with h | h
 ·have:=oE1 h0 h;omega
 ·rw[h];exact iB2 _
theorem bH1 :fst_ 1 = -719162:=by decide
theorem oI :fst_ 10000=2932897:=by decide
theorem oA1 (y:Int):cum y 1=0:=by unfold cum cumT;simp
theorem pH (y:Int) {a b:Int} (h0:1≤a) (h:a≤b) (h1:b≤13):cum y a≤cum y b:=by
 obtain⟨k,hk⟩:=Int.eq_ofNat_of_zero_le (show 0≤b-a by omega);have e:b=a+(k:Int):=by omega
 subst e;clear hk h
 induction k with
 | zero=>simp
 | succ k ih=>
  have:=ih (by omega);have h2:=sD y (a+(k:Int)) (by omega) (by omega);have:=eJ y (a+(k:Int));rw[show a+((k+1:Nat):Int)=a+(k:Int)+1 by omega,h2];omega
theorem kS1 (n:Int) (h1: -719162≤n) (h2:n≤2932896):∃y,1≤y∧y≤9999∧fst_ y≤n∧n<fst_ (y+1):=by
 have key:∀k:Nat,k≤9999→n<fst_ (1+(k:Int)) → ∃y,1≤y∧y≤9999∧fst_ y≤n∧n<fst_ (y+1):=by
  intro k
  induction k with
  | zero=>
   intro _ h;rw[show(1:Int)+((0:Nat):Int)=1 from rfl,bH1]at h;omega
  | succ k ih=>
   intro hk h;by_cases c:n<fst_ (1+(k:Int))
   ·exact ih (by omega) c
   ·exact⟨1+(k:Int),by omega,by omega,by omega,by rw[show(1:Int)+(k:Int)+1=1+((k+1:Nat):Int) by omega];exact h⟩
 refine key 9999 (tZ1 _) ?_;rw[show(1:Int)+((9999:Nat):Int)=10000 from rfl,oI];omega
theorem vO1 (y d:Int) (h1:0≤d) (h2:d<cum y 13):∃m,1≤m∧m≤12∧cum y m≤d∧d<cum y (m+1):=by
 have key:∀k:Nat,k≤12→d<cum y (1+(k:Int)) → ∃m,1≤m∧m≤12∧cum y m≤d∧d<cum y (m+1):=by
  intro k
  induction k with
  | zero=>
   intro _ h;rw[show(1:Int)+((0:Nat):Int)=1 from rfl,oA1]at h;omega
  | succ k ih=>
   intro hk h;by_cases c:d<cum y (1+(k:Int))
   ·exact ih (by omega) c
   ·exact⟨1+(k:Int),by omega,by omega,by omega,by rw[show(1:Int)+(k:Int)+1=1+((k+1:Nat):Int) by omega];exact h⟩
 exact key 12 (tZ1 _) h2
def uG (n y m d:Int):Prop:=oK y m d=true∧fst_ y+d-1+cum y m=n
theorem fC {y m d:Int}:oK y m d=true↔1≤y∧y≤9999∧1≤d∧d≤mlen y m:=by unfold oK;simp only[iZ1,decide_eq_true_eq,and_assoc]
theorem vE {n y m d:Int} (h:uG n y m d):fst_ y≤n∧n<fst_ (y+1)∧1≤m∧m≤12 ∧ -719162≤n∧n≤2932896:=by obtain⟨h1,h2⟩:=h;obtain⟨h3,h4,h5,h6⟩:=fC.1 h1;have hm:=(eJ y m).2.2 (by omega);have hc:=sD y m hm.1 hm.2;have hb:=mK y m;have hs:=bG y h3;have hmo:=pH y (a:=m+1) (b:=13) (by omega) (by omega) (by omega);have h7:=pC (a:=1) (b:=y) (by omega) h3;have h8:=pC (a:=y+1) (b:=10000) (by omega) (by omega);rw[bH1]at h7;rw[oI]at h8;exact⟨by omega,by omega,hm.1,hm.2,by omega,by omega⟩
theorem iV1 (y d0 M:Int) (hy:1≤y) (hy2:y≤9999) (h1:0≤d0) (h2:M≤12) (h3:cum y M≤d0) (h4:d0<cum y (M+1)):∀(k:Nat) (m:Int),M-m=k→1≤m →
  sA.l5 y (d0-cum y m) m=some (y,M,d0-cum y M+1,0,())∧True:=by
 intro k
 induction k with
 | zero=>
  intro m hk hm;have e:m=M:=by omega
  subst e;have hc:=sD y m hm h2;have hb:=mK y m;have hb2:=mK y (m+1);rw[sA.l5_eq,cG y m (by omega)];refine⟨?_,trivial⟩;simp(disch:=omega)only[ss,ge_iff_le]
 | succ k ih=>
  intro m hk hm;have hc:=sD y m hm (by omega);have hmo:=pH y (a:=m+1) (b:=M) (by omega) (by omega) (by omega);have hb:=mK y m;have hb1:=mK y M;have hb2:=mK y (m+1);have hb3:=mK y (M+1);rw[sA.l5_eq,cG y m (by omega)];have e:d0-cum y m-mlen y m=d0-cum y (m+1):=by omega
  refine⟨?_,trivial⟩;simp(disch:=omega)only[ss,ge_iff_le];rw[e];exact(ih (m+1) (by omega) (by omega)).1
theorem mO1 (y:Int) (hy:1≤y) (hy2:y≤10000):vC.f y 1 1=some (fst_ y,()):=by
 rw[dL y 1 1 hy hy2 (by omega) (by omega) (by omega) (by omega),oA1]
 congr 2
 omega
theorem wV1 (n Y:Int) (hY:1≤Y) (h1:fst_ Y≤n) (h2:n<fst_ (Y+1)):∀(k:Nat) (z:Int),z-Y=k→z≤9999→sA.l4 n z=sA.l5 Y (n-fst_ Y) 1:=by
 intro k;have hfb:=wS (Y+1) (by omega)
 induction k with
 | zero=>
  intro z hk hz;have e:z=Y:=by omega
  subst e;have hfb:=wS z (by omega) (by omega);have hfb1:=wS (z+1) (by omega) (by omega);rw[sA.l4_eq,mO1 z (by omega) (by omega)];simp(disch:=omega)only[ss,gt_iff_lt]
 | succ k ih=>
  intro z hk hz;have hm:=pC (a:=Y+1) (b:=z) (by omega) (by omega);have hfb:=wS z (by omega) (by omega);rw[sA.l4_eq,mO1 z (by omega) (by omega)];simp(disch:=omega)only[ss,gt_iff_lt];exact ih (z-1) (by omega) (by omega)
theorem zW1 (n Y:Int) (hY:1≤Y) (hY2:Y≤9999) (h1:fst_ Y≤n) (h2:n<fst_ (Y+1)):∀(k:Nat) (y:Int),(Y-y).toNat=k→1≤y→y≤9999 → ∃z,Y≤z∧z≤9999∧sA.l1 n y=sA.l4 n z:=by
 intro k
 induction k with
 | zero=>
  intro y hk hy hy2;refine⟨y,by omega,hy2,?_⟩;rw[sA.l1_eq];by_cases c:y<9999
  ·have hm:=pC (a:=Y+1) (b:=y+1) (by omega) (by omega);have hw:w6 (y+1)=y+1:=wr (by omega) (by omega);rw[hw,mO1 (y+1) (by omega) (by omega)];simp(disch:=omega)only[ss,sA.l2_eq,sA.l3_eq]
  ·simp(disch:=omega)only[ss,sA.l2_eq,sA.l3_eq]
 | succ k ih=>
  intro y hk hy hy2;have hm:=pC (a:=y+1) (b:=Y) (by omega) (by omega);have hw:w6 (y+1)=y+1:=wr (by omega) (by omega);obtain⟨z,z1,z2,z3⟩:=ih (y+1) (by omega) (by omega) (by omega);refine⟨z,z1,z2,?_⟩;rw[sA.l1_eq,hw,mO1 (y+1) (by omega) (by omega)];simp(disch:=omega)only[ss,sA.l2_eq];exact z3
theorem mJ (n:Int) (h1: -719162≤n) (h2:n≤2932896):∃y m d,uG n y m d∧sA.f n=some (y,m,d,0,())∧True:=by
 obtain⟨Y,y1,y2,y3,y4⟩:=kS1 n h1 h2;have hs:=bG Y y1;obtain⟨M,m1,m2,m3,m4⟩:=vO1 Y (n-fst_ Y) (by omega) (by omega);have hc:=sD Y M m1 m2;have h5:=iV1 Y (n-fst_ Y) M y1 y2 (by omega) m2 m3 m4 (M-1).toNat 1 (by omega) (by omega);rw[oA1,Int.sub_zero]at h5;refine⟨Y,M,n-fst_ Y-cum Y M+1,⟨fC.2 ⟨y1,y2,by omega,by omega⟩,by omega⟩,?_,?_⟩
 ·have hz1:(n+719162)*400/146097+1≤9999:=by omega
  obtain⟨z,z1,z2,z3⟩:=zW1 n Y y1 y2 y3 y4 _ ((n+719162)*400/146097+1) rfl (by omega) hz1;have h4:=wV1 n Y y1 y3 y4 (z-Y).toNat z (by omega) z2;rw[sA.f_eq,yK.f_eq];have e1:w6 (n - -719162)=n+719162:=by rw[wr (by omega) (by omega)];omega
  have e2:w6 ((n+719162)*400)=(n+719162)*400:=wr (by omega) (by omega);simp(disch:=omega)only[ss,e1,e2,tdn (show 0≤(n+719162)*400 by omega),ge_iff_le];rw[z3,h4];exact h5.1
 ·trivial
theorem hI1 (n:Int) (h:¬(-719162≤n∧n≤2932896)):sA.f n=some (0,0,0,1,())∧True:=by
 rw[sA.f_eq,yK.f_eq];refine⟨?_,trivial⟩;by_cases c: -719162≤n
 ·simp(disch:=omega)only[ss,ge_iff_le]
 ·simp(disch:=omega)only[ss,ge_iff_le]
theorem yS {n y m d y' m' d':Int} (h:uG n y m d) (g:uG n y' m' d'):y=y'∧m=m'∧d=d':=by
 obtain⟨h1,h2,h3,h4,_⟩:=vE h;obtain⟨g1,g2,g3,g4,_⟩:=vE g;obtain⟨a1,a2,a3,a4⟩:=fC.1 h.1;obtain⟨b1,b2,b3,b4⟩:=fC.1 g.1;have e:y=y':=by
  rcases Int.lt_trichotomy y y' with c | c | c
  ·have:=pC (a:=y+1) (b:=y') (by omega) (by omega);omega
  ·exact c
  ·have:=pC (a:=y'+1) (b:=y) (by omega) (by omega);omega
 subst e;have hh:=h.2;have hg:=g.2;have c1:=sD y m h3 h4;have c2:=sD y m' g3 g4;have em:m=m':=by
  rcases Int.lt_trichotomy m m' with c | c | c
  ·have:=pH y (a:=m+1) (b:=m') (by omega) (by omega) (by omega);omega
  ·exact c
  ·have:=pH y (a:=m'+1) (b:=m) (by omega) (by omega) (by omega);omega
 subst em;exact⟨rfl,rfl,by omega⟩
theorem tdm (t k:Int) (hk:0<k):Int.tdiv t k=(if t%k≠0∧t<0 then t/k+1 else t/k)∧Int.tmod t k=(if t%k≠0∧t<0 then t%k-k else t%k):=by
 by_cases h:0≤t
 ·rw[if_neg (by omega),if_neg (by omega)];exact⟨tdn h k,tmn h k⟩
 ·have e:t = -(-t):=by omega
  have h1:Int.tdiv t k = -((-t)/k):=by rw[e,Int.neg_tdiv,tdn (by omega),Int.neg_neg]
  have h2:Int.tmod t k = -((-t)%k):=by rw[e,Int.neg_tmod,tmn (by omega),Int.neg_neg]
  have h3:=Int.emod_add_mul_ediv t k;have h4:=Int.emod_add_mul_ediv (-t) k;have b1:=Int.emod_nonneg t (show k≠0 by omega);have b2:=Int.emod_lt_of_pos t hk;have b3:=Int.emod_nonneg (-t) (show k≠0 by omega);have b4:=Int.emod_lt_of_pos (-t) hk;rw[h1,h2];by_cases hz:t%k=0
  ·rw[if_neg (by omega),if_neg (by omega)];have hz2:(-t)%k=0:=by have:k∣t:=Int.dvd_of_emod_eq_zero hz;exact Int.emod_eq_zero_of_dvd (Int.dvd_neg.2 this)
   have:(-t)/k = -(t/k):=Int.neg_ediv_of_dvd (Int.dvd_of_emod_eq_zero hz);exact⟨by omega,by omega⟩
  ·rw[if_pos ⟨hz,by omega⟩,if_pos ⟨hz,by omega⟩];have hq:(-t)%k=k-t%k:=by
    have e1: -t=(k-t%k)+k*(-(t/k)-1):=by rw[Int.mul_sub,Int.mul_neg];omega
    rw[e1,Int.add_mul_emod_self_left,Int.emod_eq_of_lt (by omega) (by omega)]
   have hd:(-t)/k = -(t/k)-1:=by
    have:k*((-t)/k)=k*(-(t/k)-1):=by rw[Int.mul_sub,Int.mul_neg];omega
    exact Int.eq_of_mul_eq_mul_left (by omega) this
   exact⟨by omega,by omega⟩
theorem xF (t:Int) (h1: -9000000000000000000≤t) (h2:t≤9000000000000000000):gE.f t=some (t/86400,t%86400,())∧eI.f t=some (t/86400,t%86400,()):=by
 obtain⟨e1,e2⟩:=tdm t 86400 (by omega);rw[gE.f_eq,eI.f_eq,tI.f_eq,e1,e2];by_cases c:t%86400≠0∧t<0
 ·rw[if_pos c,if_pos c];have q1:t/86400+1-1=t/86400:=by omega
  have q2:t%86400-86400+86400=t%86400:=by omega
  simp(disch:=omega)only[ss,q1,q2];exact⟨trivial,trivial⟩
 ·rw[if_neg c,if_neg c];simp(disch:=omega)only[ss];exact⟨trivial,trivial⟩
theorem qN (t:Int):iF.f t=some (decide (-62135596800≤t∧t≤253402300799),())∧cF.f t=some (decide (-62135596800≤t∧t≤253402300799),()):=by
 rw[iF.f_eq,cF.f_eq];by_cases c: -62135596800≤t
 ·by_cases c2:t≤253402300799
  ·simp(disch:=omega)only[ss,ge_iff_le];exact⟨trivial,trivial⟩
  ·simp(disch:=omega)only[ss,ge_iff_le];exact⟨trivial,trivial⟩
 ·simp(disch:=omega)only[ss,ge_iff_le];exact⟨trivial,trivial⟩
def wk (n:Int):Int:=(n+3)%7
theorem zL1 (n:Int):0≤wk n∧wk n≤6:=by unfold wk;omega
theorem iG (n:Int):yD.f n=some (wk n,()):=by
 obtain⟨_,e⟩:=tdm n 7 (by omega);rw[yD.f_eq,e];unfold wk;by_cases c:n%7≠0∧n<0
 ·rw[if_pos c];simp(disch:=omega)only[ss,tmn (show(0:Int)≤n%7-7+7+3 by omega)]
  congr 2
  omega
 ·rw[if_neg c];simp(disch:=omega)only[ss,tmn (show(0:Int)≤n%7+7+3 by omega)]
  congr 2
  omega
theorem numJ (y:Int) (hy:0≤y) (hy2:y≤10001):vC.f y 1 1=some (fst_ y,()):=by
 rw[vC.f_eq];simp(disch:=omega)only[ss,tdn (show 0≤y-1+400 by omega),tdn (show(0:Int)≤153*(1+12-3)+2 by omega)]
 congr 2
 unfold fst_;omega
def w1 (y w:Int):Int:=fst_ y+3-(fst_ y+6-w)%7
theorem cJ (y:Int) (hy:0≤y) (hy2:y≤10001): -1000000≤fst_ y∧fst_ y≤4000000:=by unfold fst_;omega
theorem bL (y w:Int) (hy:0≤y) (hy2:y≤10001) (hw:0≤w) (hw2:w≤6):yE.f y w=some (w1 y w,()):=by
 have hb:=cJ y hy hy2;have hk:=zL1 (fst_ y);rw[yE.f_eq,numJ y hy hy2];simp only[hZ1];rw[iG];simp(disch:=omega)only[ss,tmn (show(0:Int)≤wk (fst_ y)-w+7 by omega)];unfold w1;by_cases c:(wk (fst_ y)-w+7)%7≤3
 ·simp(disch:=omega)only[ss]
  congr 2
  unfold wk at *;omega
 ·simp(disch:=omega)only[ss]
  congr 2
  unfold wk at *;omega
theorem lJ (y:Int) (hy:0≤y):365≤fst_ (y+1)-fst_ y∧fst_ (y+1)-fst_ y≤366:=by
 by_cases c:1≤y
 ·have:=bG y c;have:=fH1 y;omega
 ·have:y=0:=by omega
  subst this;decide
theorem aL (y w:Int) (hy:0≤y):w1 (y+1) w=w1 y w+364∨w1 (y+1) w=w1 y w+371:=by have:=lJ y hy;unfold w1;omega
theorem iI (y w:Int):fst_ y-3≤w1 y w∧w1 y w≤fst_ y+3∧(w1 y w+3-w)%7=0:=by unfold w1;omega
def qV (n w y k:Int):Prop:=w1 y w≤n∧n<w1 (y+1) w∧k=(n-w1 y w)/7+1
theorem hD1 {a b w:Int} (h0:0≤a) (h:a≤b):w1 a w≤w1 b w:=by
 obtain⟨k,hk⟩:=Int.eq_ofNat_of_zero_le (show 0≤b-a by omega);have e:b=a+(k:Int):=by omega
 subst e;clear hk h
 induction k with
 | zero=>simp
 | succ k ih=>
  have:=aL (a+(k:Int)) w (by omega);rw[show a+((k+1:Nat):Int)=a+(k:Int)+1 by omega];omega
theorem rN {n w y k y' k':Int} (h0:0≤y) (h1:0≤y') (h:qV n w y k) (g:qV n w y' k'):y=y'∧k=k':=by
 obtain⟨a1,a2,a3⟩:=h;obtain⟨b1,b2,b3⟩:=g;have e:y=y':=by
  rcases Int.lt_trichotomy y y' with c | c | c
  ·have:=hD1 (a:=y+1) (b:=y') (w:=w) (by omega) (by omega);omega
  ·exact c
  ·have:=hD1 (a:=y'+1) (b:=y) (w:=w) (by omega) (by omega);omega
 subst e;exact⟨rfl,by omega⟩
theorem pR (w:Int):aH.f w=some (decide (0≤w∧w≤6),()):=by
 rw[aH.f_eq];by_cases c:0≤w
 ·by_cases c2:w≤6
  ·simp(disch:=omega)only[ss,ge_iff_le]
  ·simp(disch:=omega)only[ss,ge_iff_le]
 ·simp(disch:=omega)only[ss,ge_iff_le]
theorem yC1 (n w Y:Int) (hY:0≤Y) (hY2:Y≤10001) (hw:0≤w) (hw2:w≤6) (h1:w1 Y w≤n) (h2:n≤4000000) (e:Int):mC.l2 n w Y=some (Y,(n-w1 Y w)/7+1,0,())∧True:=by have c:=bL Y w hY hY2 hw hw2;have f:=cJ Y hY hY2;have g:=iI Y w;rw[mC.l2_eq,c];refine⟨?_,trivial⟩;simp(disch:=omega)only[ss,tdn (show(0:Int)≤n-w1 Y w by omega)]
theorem nT1 (n w Y:Int) (hY:1≤Y) (hY2:Y≤9999) (hw:0≤w) (hw2:w≤6) (q1:fst_ Y≤n) (q2:n<fst_ (Y+1)):∃y k,qV n w y k∧0≤y∧y≤10000∧1≤k∧k≤53∧mC.l1 n w Y false=some (y,k,0,())∧True:=by
 have f2:=cJ (Y+1) (by omega) (by omega);have n0:=iI (Y-1) w;have n1:=iI Y w;have n2:=iI (Y+1) w;have n3:=iI (Y+2) w;have s0:=aL (Y-1) w (by omega);have s1:=aL Y w (by omega);have s2:=aL (Y+1) w (by omega);have p0:=lJ (Y-1) (by omega);rw[show Y-1+1=Y by omega]at s0 p0;rw[show Y+1+1=Y+2 by omega]at s2;have c1:=bL Y w (by omega) (by omega) hw hw2;have c2:=bL (Y+1) w (by omega) (by omega) hw hw2;have wp:w6 (Y+1)=Y+1:=wr (by omega) (by omega);have wm:w6 (Y-1)=Y-1:=wr (by omega) (by omega);rw[mC.l1_eq,cond_false,wp,wm,c1,c2];simp only[hZ1];by_cases cl:n<w1 Y w
 ·have hn:¬n≥w1 (Y+1) w:=by omega
  have h:=yC1 n w (Y-1) (by omega) (by omega) hw hw2 (by omega) (by omega) 0;refine⟨Y-1,(n-w1 (Y-1) w)/7+1,⟨by omega,by rw[show Y-1+1=Y by omega];exact cl,rfl⟩,by omega,by omega,by omega,by omega,?_,?_⟩
  ·rw[dp cl,cond_true];exact h.1
  ·trivial
 ·by_cases cu:n≥w1 (Y+1) w
  ·have h:=yC1 n w (Y+1) (by omega) (by omega) hw hw2 (by omega) (by omega) 0;refine⟨Y+1,(n-w1 (Y+1) w)/7+1,⟨by omega,by rw[show Y+1+1=Y+2 by omega];omega,rfl⟩,by omega,by omega,by omega,by omega,?_,?_⟩
   ·rw[dn cl,dp cu,cond_true,cond_false];exact h.1
   ·trivial
  ·have h:=yC1 n w Y (by omega) (by omega) hw hw2 (by omega) (by omega) 0;refine⟨Y,(n-w1 Y w)/7+1,⟨by omega,by omega,rfl⟩,by omega,by omega,by omega,by omega,?_,?_⟩
   ·rw[dn cl,dn cu,cond_false,cond_false];exact h.1
   ·trivial
theorem aR (n w:Int) (h1: -719162≤n) (h2:n≤2932896) (hw:0≤w) (hw2:w≤6):∃y k,qV n w y k∧0≤y∧y≤10000∧1≤k∧k≤53∧mC.f n w=some (y,k,0,())∧True:=by
 obtain⟨Y,m,d,hd,e1,e2⟩:=mJ n h1 h2;obtain⟨q1,q2,_⟩:=vE hd;obtain⟨v1,v2,_⟩:=fC.1 hd.1;obtain⟨y,k,g1,g2,g3,g4,g5,g6,g7⟩:=nT1 n w Y v1 v2 hw hw2 q1 q2;refine⟨y,k,g1,g2,g3,g4,g5,?_,?_⟩
 ·rw[mC.f_eq,e1];simp only[hZ1];rw[pR,dp (show 0≤w∧w≤6 from⟨hw,hw2⟩)];exact g6
 ·trivial
theorem kP (y:Int):jG.f y=some (decide (1≤y∧y≤9999),()):=by
 rw[jG.f_eq];by_cases c:1≤y
 ·by_cases c2:y≤9999
  ·simp(disch:=omega)only[ss,ge_iff_le]
  ·simp(disch:=omega)only[ss,ge_iff_le]
 ·simp(disch:=omega)only[ss,ge_iff_le]
def wks (y w:Int):Int:=(w1 (y+1) w-w1 y w)/7
theorem zU1 (y w:Int) (hy:0≤y):(wks y w=52∨wks y w=53)∧w1 (y+1) w=w1 y w+7*wks y w:=by have:=aL y w hy;unfold wks;omega
theorem lH1 (y w:Int):pI.f y w=some (if(1≤y∧y≤9999)∧0≤w∧w≤6 then(wks y w,0,())else(0,1,())):=by
 rw[pI.f_eq,kP];by_cases c:1≤y∧y≤9999
 ·rw[dp c];simp only[hZ1];rw[pR];by_cases c2:0≤w∧w≤6
  ·rw[dp c2,if_pos ⟨c,c2⟩];have h1:=bL (y+1) w (by omega) (by omega) c2.1 c2.2;have h2:=bL y w (by omega) (by omega) c2.1 c2.2;have f1:=iI (y+1) w;have f2:=iI y w;have f3:=cJ y (by omega) (by omega);have f4:=cJ (y+1) (by omega) (by omega);have s:=aL y w (by omega);have wp:w6 (y+1)=y+1:=wr (by omega) (by omega);rw[wp,h1,h2];unfold wks;simp(disch:=omega)only[ss,tdn (show(0:Int)≤w1 (y+1) w-w1 y w by omega)]
  ·rw[dn c2,if_neg fun q=>c2 q.2];simp(disch:=omega)only[ss]
 ·rw[dn c,if_neg fun q=>c q.1];simp(disch:=omega)only[ss]
theorem qP (n y m d:Int) (h:uG n y m d) (e:sA.f n=some (y,m,d,0,())):sF.f n=some (y,n-fst_ y+1,0,()):=by obtain⟨q1,q2,q3,q4,q5,q6⟩:=vE h;obtain⟨v1,v2,_⟩:=fC.1 h.1;have f:=cJ y (by omega) (by omega);rw[sF.f_eq,e];simp(disch:=omega)only[ss,numJ y (by omega) (by omega)]
abbrev Dy :=Int×Int×Unit
def dyLt (a b:Dy):Prop:=a.1<b.1∨a.1=b.1∧a.2.1<b.2.1
def nC (f:Option (Bool×Unit)) (p:Prop):Prop:=∃b,f=some (b,())∧(b=true↔p)
theorem nC.iff {f:Option (Bool×Unit)} {p q:Prop} (h:nC f p) (e:p↔q):nC f q:=by obtain⟨b,h1,h2⟩:=h;exact⟨b,h1,h2.trans e⟩
theorem nC.eq {f g:Option (Bool×Unit)} {p:Prop} (h:nC f p) (k:nC g p):f=g:=by
 obtain⟨b,h1,h2⟩:=h;obtain⟨c,k1,k2⟩:=k;have:b=c:=by cases b <;> cases c <;> simp at h2 k2 <;> first | rfl | exact absurd k2 h2 | exact absurd h2 k2
 rw[h1,k1,this]
def okI (l:List Int) (lo hi:Int) (z:Bool) (j:Nat):Prop:=lo≤l.getD j 0∧l.getD j 0≤hi∧(l.getD j 0=0→z=true)
def adjI (l:List Int) (j:Nat):Prop:=0<j→l.getD (j-1) 0<l.getD j 0
theorem nM1 (l:List Int) (lo hi:Int) (z:Bool) (hl:l.length≤1000000):∀(k i:Nat),l.length-i=k→i≤l.length →
  nC (eB.l1 l lo hi z l l.length i) ((∀j,i≤j→j<l.length→okI l lo hi z j∧adjI l j)∧l.length≤60):=by
 intro k
 induction k with
 | zero=>
  intro i hk hil;rw[eB.l1_eq];simp(disch:=omega)only[ss];refine⟨_,rfl,?_⟩;rw[decide_eq_true_eq];exact⟨fun h=>⟨fun j h1 h2=>by omega,by omega⟩,fun h=>by omega⟩
 | succ k ih=>
  intro i hk hil;have hlt:i<l.length:=by omega
  have step:okI l lo hi z i∧adjI l i→nC (eB.l2 l lo hi z l l.length i false) ((∀j,i≤j→j<l.length→okI l lo hi z j∧adjI l j)∧l.length≤60):=fun h=>by
   rw[eB.l2_eq];simp(disch:=omega)only[ss];refine(ih (i+1) (by omega) (by omega)).iff ⟨fun q=>⟨fun j h1 h2=>?_,q.2⟩,fun q=>⟨fun j h1 h2=>q.1 j (by omega) h2,q.2⟩⟩;by_cases e:j=i
   ·subst e;exact h
   ·exact q.1 j (by omega) h2
  have stop:¬(okI l lo hi z i∧adjI l i)→nC (eB.l2 l lo hi z l l.length i true) ((∀j,i≤j→j<l.length→okI l lo hi z j∧adjI l j)∧l.length≤60):=fun h=>by rw[eB.l2_eq,cond_true];exact⟨false,rfl,by simp;intro q;exact absurd (q i (tZ1 _) hlt) h⟩
  have last:okI l lo hi z i→nC (bif decide ((i:Int)>0)then(bif decide (0≤(i:Int)-1)then(eB.l2 l lo hi z l l.length i (decide (l.getD i 0≤l.getD (i-1) 0)))else none)else(eB.l2 l lo hi z l l.length i false)) ((∀j,i≤j→j<l.length→okI l lo hi z j∧adjI l j)∧l.length≤60):=fun h=>by
   by_cases h0:i=0
   ·simp(disch:=omega)only[ss];exact step ⟨h,fun q=>by omega⟩
   ·simp(disch:=omega)only[ss];by_cases c:l.getD i 0≤l.getD (i-1) 0
    ·rw[dp c];exact stop fun q=>by have:=q.2 (by omega);omega
    ·rw[dn c];exact step ⟨h,fun _=>by omega⟩
  rw[eB.l1_eq];simp(disch:=omega)only[ss];by_cases c1:l.getD i 0<lo
  ·rw[dp c1,cond_true];exact stop fun q=>by have:=q.1.1;omega
  ·by_cases c2:l.getD i 0>hi
   ·rw[dn c1,dp c2,cond_false,cond_true];exact stop fun q=>by have:=q.1.2.1;omega
   ·rw[dn c1,dn c2,cond_false,cond_false];by_cases c3:l.getD i 0=0
    ·rw[dp c3,cond_true]
     cases z with
     | false=>
      exact stop fun q=>by have:=q.1.2.2 c3;cases this
     | true=>exact last ⟨by omega,by omega,fun _=>rfl⟩
    ·rw[dn c3,cond_false];exact last ⟨by omega,by omega,fun q=>absurd q c3⟩
def wi (l:List Int) (lo hi:Int) (z:Bool):Prop:=(∀j,j<l.length→okI l lo hi z j∧adjI l j)∧l.length≤60
theorem oF (l:List Int) (lo hi:Int) (z:Bool) (hl:l.length≤1000000):nC (eB.f l lo hi z) (wi l lo hi z):=by have:=nM1 l lo hi z hl _ 0 rfl (oZ1 _);rw[yZ1]at this;rw[eB.f_eq];exact this.iff ⟨fun h=>⟨fun j h2=>h.1 j (oZ1 _) h2,h.2⟩,fun h=>⟨fun j _ h2=>h.1 j h2,h.2⟩⟩
theorem rI1 (l:List Int) (hl:l.length≤1000000):∀(k i:Nat),l.length-i=k→0<i→nC (bD.l1 l i) (∀j,i≤j→j<l.length→adjI l j):=by
 intro k
 induction k with
 | zero=>
  intro i hk hil;rw[bD.l1_eq];by_cases hlt:i<l.length
  ·omega
  ·simp(disch:=omega)only[ss];exact⟨true,rfl,by simp;intro j h1 h2;omega⟩
 | succ k ih=>
  intro i hk hil;have hlt:i<l.length:=by omega
  have w1:w6 ((i:Int)-1)=((i-1:Nat):Int):=yX (by omega) (by omega);rw[bD.l1_eq];simp(disch:=omega)only[ss,w1];by_cases c:l.getD i 0≤l.getD (i-1) 0
  ·rw[dp c,cond_true];exact⟨false,rfl,by simp;exact⟨i,tZ1 _,hlt,fun q=>by have:=q hil;omega⟩⟩
  ·rw[dn c,cond_false];refine(ih (i+1) (by omega) (by omega)).iff ⟨fun q j h1 h2=>?_,fun q j h1 h2=>q j (by omega) h2⟩;by_cases e:j=i
   ·subst e;intro _;omega
   ·exact q j (by omega) h2
theorem yB1 (l:List Int) (hl:l.length≤1000000):nC (bD.f l) (∀j,j<l.length→adjI l j):=by have:=rI1 l hl _ 1 rfl (by omega);rw[bD.f_eq];exact this.iff ⟨fun h j h2 h0=>h j (by omega) h2 h0,fun h j _ h2=>h j h2⟩
theorem sG1 (l:List Int) (lo hi:Int) (z:Bool) (hl:l.length≤1000000):∀(k i:Nat),l.length-i=k→i≤l.length →
  nC (xA.l1 l lo hi z i) ((∀j,i≤j→j<l.length→okI l lo hi z j)∧(∀j,j<l.length→adjI l j)∧l.length≤60):=by
 intro k
 induction k with
 | zero=>
  intro i hk hil;rw[xA.l1_eq];simp(disch:=omega)only[ss];by_cases c:(l.length:Int)≤60
  ·obtain⟨b,h1,h2⟩:=yB1 l hl;simp(disch:=omega)only[ss,h1];exact⟨b,rfl,h2.trans ⟨fun q=>⟨fun j h3 h4=>by omega,q,by omega⟩,fun q=>q.2.1⟩⟩
  ·simp(disch:=omega)only[ss];exact⟨false,rfl,by simp;intro _ _;omega⟩
 | succ k ih=>
  intro i hk hil;have hlt:i<l.length:=by omega
  have step:okI l lo hi z i→nC (xA.l2 l lo hi z i false) ((∀j,i≤j→j<l.length→okI l lo hi z j)∧(∀j,j<l.length→adjI l j)∧l.length≤60):=fun h=>by
   rw[xA.l2_eq];simp(disch:=omega)only[ss];refine(ih (i+1) (by omega) (by omega)).iff ⟨fun q=>⟨fun j h1 h2=>?_,q.2⟩,fun q=>⟨fun j h1 h2=>q.1 j (by omega) h2,q.2⟩⟩;by_cases e:j=i
   ·subst e;exact h
   ·exact q.1 j (by omega) h2
  have stop:¬okI l lo hi z i→nC (xA.l2 l lo hi z i true) ((∀j,i≤j→j<l.length→okI l lo hi z j)∧(∀j,j<l.length→adjI l j)∧l.length≤60):=fun h=>by rw[xA.l2_eq,cond_true];exact⟨false,rfl,by simp;intro q;exact absurd (q i (tZ1 _) hlt) h⟩
  rw[xA.l1_eq];simp(disch:=omega)only[ss];by_cases c1:l.getD i 0<lo
  ·rw[dp c1,cond_true];exact stop fun q=>by have:=q.1;omega
  ·by_cases c2:l.getD i 0>hi
   ·rw[dn c1,dp c2,cond_false,cond_true];exact stop fun q=>by have:=q.2.1;omega
   ·rw[dn c1,dn c2,cond_false,cond_false];by_cases c3:l.getD i 0=0
    ·rw[dp c3,cond_true]
     cases z with
     | false=>exact stop fun q=>by have:=q.2.2 c3;cases this
     | true=>exact step ⟨by omega,by omega,fun _=>rfl⟩
    ·rw[dn c3,cond_false];exact step ⟨by omega,by omega,fun q=>absurd q c3⟩
theorem xE (l:List Int) (lo hi:Int) (z:Bool) (hl:l.length≤1000000):nC (xA.f l lo hi z) (wi l lo hi z):=by have:=sG1 l lo hi z hl _ 0 rfl (oZ1 _);rw[yZ1]at this;rw[xA.f_eq];exact this.iff ⟨fun h=>⟨fun j h2=>⟨h.1 j (oZ1 _) h2,h.2.1 j h2⟩,h.2.2⟩,fun h=>⟨fun j _ h2=>(h.1 j h2).1,fun j h2=>(h.1 j h2).2,h.2⟩⟩
def gD (l:List Dy) (j:Nat):Dy:=l.getD j ((0,0,()):Int×Int×Unit)
def okD (l:List Dy) (j:Nat):Prop:= -53≤(gD l j).1∧(gD l j).1≤53∧0≤(gD l j).2.1∧(gD l j).2.1≤6∧(0<j→dyLt (gD l (j-1)) (gD l j))
def dwi (l:List Dy):Prop:=(∀j,j<l.length→okD l j)∧l.length≤60
theorem aV1 (l:List Dy) (hl:l.length≤1000000):∀(k i:Nat),l.length-i=k→i≤l.length→nC (vA.l1 l i) ((∀j,i≤j→j<l.length→okD l j)∧l.length≤60):=by
 intro k
 induction k with
 | zero=>
  intro i hk hil;rw[vA.l1_eq];simp(disch:=omega)only[ss];refine⟨_,rfl,?_⟩;rw[decide_eq_true_eq];exact⟨fun h=>⟨fun j h1 h2=>by omega,by omega⟩,fun h=>by omega⟩
 | succ k ih=>
  intro i hk hil;have hlt:i<l.length:=by omega
  have step:okD l i→nC (vA.l2 l i false) ((∀j,i≤j→j<l.length→okD l j)∧l.length≤60):=fun h=>by
   rw[vA.l2_eq];simp(disch:=omega)only[ss];refine(ih (i+1) (by omega) (by omega)).iff ⟨fun q=>⟨fun j h1 h2=>?_,q.2⟩,fun q=>⟨fun j h1 h2=>q.1 j (by omega) h2,q.2⟩⟩;by_cases e:j=i
   ·subst e;exact h
   ·exact q.1 j (by omega) h2
  have stop:¬okD l i→nC (vA.l2 l i true) ((∀j,i≤j→j<l.length→okD l j)∧l.length≤60):=fun h=>by rw[vA.l2_eq,cond_true];exact⟨false,rfl,by simp;intro q;exact absurd (q i (tZ1 _) hlt) h⟩
  have hg:l.getD i ((0,0,()):Int×Int×Unit)=gD l i:=rfl;have hg1:l.getD (i-1) ((0,0,()):Int×Int×Unit)=gD l (i-1):=rfl;rw[vA.l1_eq];simp(disch:=omega)only[ss,hg];by_cases c1:(gD l i).1 < -53
  ·rw[dp c1,cond_true];exact stop fun q=>by have:=q.1;omega
  ·by_cases c2:(gD l i).1>53
   ·rw[dn c1,dp c2,cond_false,cond_true];exact stop fun q=>by have:=q.2.1;omega
   ·by_cases c3:(gD l i).2.1<0
    ·rw[dn c1,dn c2,dp c3,cond_false,cond_false,cond_true];exact stop fun q=>by have:=q.2.2.1;omega
    ·by_cases c4:(gD l i).2.1>6
     ·rw[dn c1,dn c2,dn c3,dp c4,cond_false,cond_false,cond_false,cond_true];exact stop fun q=>by have:=q.2.2.2.1;omega
     ·rw[dn c1,dn c2,dn c3,dn c4,cond_false,cond_false,cond_false,cond_false];by_cases h0:i=0
      ·simp(disch:=omega)only[ss];exact step ⟨by omega,by omega,by omega,by omega,fun q=>by omega⟩
      ·have w1:w6 ((i:Int)-1)=((i-1:Nat):Int):=yX (by omega) (by omega);simp(disch:=omega)only[ss,w1,hg1];by_cases c5:(gD l i).1<(gD l (i-1)).1
       ·rw[dp c5,cond_true];exact stop fun q=>by have:=q.2.2.2.2 (by omega);unfold dyLt at this;omega
       ·by_cases c6:(gD l i).1=(gD l (i-1)).1
        ·rw[dn c5,dp c6,cond_false,cond_true];by_cases c7:(gD l i).2.1≤(gD l (i-1)).2.1
         ·rw[dp c7];exact stop fun q=>by have:=q.2.2.2.2 (by omega);unfold dyLt at this;omega
         ·rw[dn c7];exact step ⟨by omega,by omega,by omega,by omega,fun _=>by unfold dyLt;omega⟩
        ·rw[dn c5,dn c6,cond_false,cond_false];exact step ⟨by omega,by omega,by omega,by omega,fun _=>by unfold dyLt;omega⟩
theorem jF1 (l:List Dy) (hl:l.length≤1000000):nC (vA.f l) (dwi l):=by have:=aV1 l hl _ 0 rfl (oZ1 _);rw[yZ1]at this;rw[vA.f_eq];exact this.iff ⟨fun h=>⟨fun j h2=>h.1 j (oZ1 _) h2,h.2⟩,fun h=>⟨fun j _ h2=>h.1 j h2,h.2⟩⟩
theorem jH1 (l:List Dy) (hl:l.length≤1000000):nC (cC.f l) (∃j,j<l.length∧(gD l j).1≠0):=by
 have key:∀(k i:Nat),l.length-i=k→i≤l.length→nC (cC.l1 l i) (∃j,i≤j∧j<l.length∧(gD l j).1≠0):=by
  intro k
  induction k with
  | zero=>
   intro i hk hil;rw[cC.l1_eq];simp(disch:=omega)only[ss];exact⟨false,rfl,by simp;intro j h1 h2;omega⟩
  | succ k ih=>
   intro i hk hil;have hlt:i<l.length:=by omega
   have hg:l.getD i ((0,0,()):Int×Int×Unit)=gD l i:=rfl;rw[cC.l1_eq];simp(disch:=omega)only[ss,hg];by_cases c:(gD l i).1=0
   ·rw[dp c];simp(disch:=omega)only[ss];refine(ih (i+1) (by omega) (by omega)).iff ⟨fun⟨j,h1,h2,h3⟩=>⟨j,by omega,h2,h3⟩,fun⟨j,h1,h2,h3⟩=>⟨j,?_,h2,h3⟩⟩;by_cases e:j=i
    ·subst e;exact absurd c h3
    ·omega
   ·rw[dn c];simp(disch:=omega)only[ss];exact⟨true,rfl,by simp;exact⟨i,tZ1 _,hlt,c⟩⟩
 have:=key _ 0 rfl (oZ1 _);rw[yZ1]at this;rw[cC.f_eq];exact this.iff ⟨fun⟨j,_,h⟩=>⟨j,h⟩,fun⟨j,h⟩=>⟨j,oZ1 _,h⟩⟩
abbrev Rl :=Int×Int×Int×Int×Int×Bool×List Int×List Int×List Int×List Int×List Dy×List Int×List Int×List Int×List Int×Unit
def Gate (f:Option (Bool×Unit)) (p:Prop) (K:Option (Bool×Unit)):Prop:=(p→f=K)∧(¬p→f=some (false,()))
theorem Gate.iff {f K:Option (Bool×Unit)} {p q:Prop} (h:Gate f p K) (e:p↔q):Gate f q K:=⟨fun x=>h.1 (e.2 x),fun x=>h.2 fun y=>x (e.1 y)⟩
theorem Gate.eq {f g K:Option (Bool×Unit)} {p:Prop} (h:Gate f p K) (k:Gate g p K):f=g:=by
 by_cases hp:p
 ·rw[h.1 hp,k.1 hp]
 ·rw[h.2 hp,k.2 hp]
theorem tG {f g K:Option (Bool×Unit)} {p q:Prop} (h:nC f p) (k:Gate g q K):Gate (f.bind fun t=>bif !t.1 then some (false,())else g) (p∧q) K:=by
 obtain⟨b,h1,h2⟩:=h;rw[h1];simp only[hZ1]
 cases b with
 | true=>exact⟨fun x=>k.1 x.2,fun x=>k.2 fun y=>x ⟨h2.1 rfl,y⟩⟩
 | false=>exact⟨fun x=>absurd (h2.2 x.1) (by simp),fun _=>rfl⟩
theorem gF {f g:Option (Bool×Unit)} {p q:Prop} (h:nC f p) (k:nC g q):nC (f.bind fun t=>bif t.1 then g else some (false,())) (p∧q):=by
 obtain⟨b,h1,h2⟩:=h;obtain⟨c,k1,k2⟩:=k;rw[h1];simp only[hZ1]
 cases b with
 | true=>rw[cond_true];exact⟨c,k1,⟨fun x=>⟨h2.1 rfl,k2.1 x⟩,fun x=>k2.2 x.2⟩⟩
 | false=>exact⟨false,rfl,⟨fun x=>by simp at x,fun x=>absurd (h2.2 x.1) (by simp)⟩⟩
theorem pU {f:Option (Bool×Unit)} {p:Prop} (h:nC f p):nC (f.bind fun t=>some (t.1,())) p:=by obtain⟨b,h1,h2⟩:=h;exact⟨b,by rw[h1];rfl,h2⟩
def numd (f:Int) (we:List Int) (l:List Dy) (j:Nat):Prop:=(gD l j).1≠0→f=2∨f=1∧we.length=0
section
variable (f iv ct un wk : Int) (en : Bool) (mo we yd md : List Int) (dy : List Dy) (ho mi se po : List Int)
theorem oP1 (hl:dy.length≤1000000) (hw:we.length≤1000000):∀(k i:Nat),dy.length-i=k→i≤dy.length→(∀j,j<i→okD dy j) →
  nC (aB.l1 dy dy.length i (f,iv,ct,un,wk,en,mo,we,yd,md,dy,ho,mi,se,po,())) ((∀j,i≤j→j<dy.length→okD dy j∧numd f we dy j)∧dy.length≤60):=by
 intro k
 induction k with
 | zero=>
  intro i hk hil hpre;rw[aB.l1_eq];simp(disch:=omega)only[ss];refine⟨_,rfl,?_⟩;rw[decide_eq_true_eq];exact⟨fun h=>⟨fun j h1 h2=>by omega,by omega⟩,fun h=>by omega⟩
 | succ k ih=>
  intro i hk hil hpre;have hlt:i<dy.length:=by omega
  have hg:dy.getD i ((0,0,()):Int×Int×Unit)=gD dy i:=rfl;have hg1:dy.getD (i-1) ((0,0,()):Int×Int×Unit)=gD dy (i-1):=rfl;have stop:¬(okD dy i∧numd f we dy i)→nC (some (false,())) ((∀j,i≤j→j<dy.length→okD dy j∧numd f we dy j)∧dy.length≤60):=fun h=>
   ⟨false,rfl,by simp;intro q;exact absurd (q i (tZ1 _) hlt) h⟩
  have go:okD dy i→numd f we dy i→nC (aB.l3 dy dy.length i false (f,iv,ct,un,wk,en,mo,we,yd,md,dy,ho,mi,se,po,())) ((∀j,i≤j→j<dy.length→okD dy j∧numd f we dy j)∧dy.length≤60):=fun h h'=>by
   rw[aB.l3_eq];simp(disch:=omega)only[ss];refine(ih (i+1) (by omega) (by omega) fun j hj=>?_).iff ⟨fun q=>⟨fun j h1 h2=>?_,q.2⟩,fun q=>⟨fun j h1 h2=>q.1 j (by omega) h2,q.2⟩⟩
   ·by_cases e:j=i
    ·subst e;exact h
    ·exact hpre j (by omega)
   ·by_cases e:j=i
    ·subst e;exact⟨h,h'⟩
    ·exact q.1 j (by omega) h2
  have l3t:aB.l3 dy dy.length i true (f,iv,ct,un,wk,en,mo,we,yd,md,dy,ho,mi,se,po,())=some (false,()):=by rw[aB.l3_eq,cond_true]
  have bad:∀a b,¬okD dy i→nC (aB.l2 dy dy.length i true (f,iv,ct,un,wk,en,mo,we,yd,md,dy,ho,mi,se,po,()) (a,b,())) ((∀j,i≤j→j<dy.length→okD dy j∧numd f we dy j)∧dy.length≤60):=fun a b h=>by rw[aB.l2_eq,cond_true];exact stop fun q=>h q.1
  have good:okD dy i→nC (aB.l2 dy dy.length i false (f,iv,ct,un,wk,en,mo,we,yd,md,dy,ho,mi,se,po,()) (gD dy i)) ((∀j,i≤j→j<dy.length→okD dy j∧numd f we dy j)∧dy.length≤60):=fun h=>by
   rw[aB.l2_eq,cond_false];by_cases c1:(gD dy i).1=0
   ·simp(disch:=omega)only[ss];exact go h fun q=>absurd c1 q
   ·by_cases c2:f=2
    ·simp(disch:=omega)only[ss];exact go h fun _=>.inl c2
    ·by_cases c3:f=1
     ·by_cases c4:(we.length:Int)>0
      ·simp(disch:=omega)only[ss,l3t];exact stop fun q=>by rcases q.2 c1 with q | q <;> omega
      ·simp(disch:=omega)only[ss];exact go h fun _=>.inr ⟨c3,by omega⟩
     ·simp(disch:=omega)only[ss,l3t];exact stop fun q=>by rcases q.2 c1 with q | q <;> omega
  rw[aB.l1_eq];simp(disch:=omega)only[ss,hg];by_cases c1:(gD dy i).1 < -53
  ·rw[dp c1,cond_true];exact bad _ _ fun q=>by have:=q.1;omega
  ·by_cases c2:(gD dy i).1>53
   ·rw[dn c1,dp c2,cond_false,cond_true];exact bad _ _ fun q=>by have:=q.2.1;omega
   ·by_cases c3:(gD dy i).2.1<0
    ·rw[dn c1,dn c2,dp c3,cond_false,cond_false,cond_true];exact bad _ _ fun q=>by have:=q.2.2.1;omega
    ·by_cases c4:(gD dy i).2.1>6
     ·rw[dn c1,dn c2,dn c3,dp c4,cond_false,cond_false,cond_false,cond_true];exact bad _ _ fun q=>by have:=q.2.2.2.1;omega
     ·rw[dn c1,dn c2,dn c3,dn c4,cond_false,cond_false,cond_false,cond_false];by_cases h0:i=0
      ·simp(disch:=omega)only[ss];exact good ⟨by omega,by omega,by omega,by omega,fun q=>by omega⟩
      ·have hp:=hpre (i-1) (by omega);have b1:=hp.1;have b2:=hp.2.1;have b3:=hp.2.2.1;have b4:=hp.2.2.2.1;simp(disch:=omega)only[ss,hg1,vL.f_eq];by_cases c6:(gD dy (i-1)).1=(gD dy i).1
       ·simp(disch:=omega)only[ss];by_cases c7:(gD dy (i-1)).2.1-(gD dy i).2.1≥0
        ·rw[dp c7];exact bad _ _ fun q=>by have:=q.2.2.2.2 (by omega);unfold dyLt at this;omega
        ·rw[dn c7];exact good ⟨by omega,by omega,by omega,by omega,fun _=>by unfold dyLt;omega⟩
       ·simp(disch:=omega)only[ss];by_cases c7:(gD dy (i-1)).1-(gD dy i).1≥0
        ·rw[dp c7];exact bad _ _ fun q=>by have:=q.2.2.2.2 (by omega);unfold dyLt at this;omega
        ·rw[dn c7];exact good ⟨by omega,by omega,by omega,by omega,fun _=>by unfold dyLt;omega⟩
def zA1 :Prop:=wi mo 1 12 false∧wi we (-53) 53 false∧wi yd (-366) 366 false∧wi md (-31) 31 false∧wi ho 0 23 true∧wi mi 0 59 true∧wi se 0 59 true∧wi po (-366) 366 false∧(dwi dy ∧ ∀j,j<dy.length→numd f we dy j)
def fO :Prop:=mo.length≤100000∧we.length≤100000∧yd.length≤100000∧md.length≤100000∧dy.length≤100000∧ho.length≤100000∧mi.length≤100000∧se.length≤100000∧po.length≤100000
theorem vU (h:fO mo we yd md dy ho mi se po):nC (qF.f (f,iv,ct,un,wk,en,mo,we,yd,md,dy,ho,mi,se,po,())) (zA1 f mo we yd md dy ho mi se po):=by
 obtain⟨h1,h2,h3,h4,h5,h6,h7,h8,h9⟩:=h;have hD:=oP1 f iv ct un wk en mo we yd md dy ho mi se po (by omega) (by omega) _ 0 rfl (oZ1 _) fun j hj=>by omega
 rw[yZ1]at hD;have hD2:nC (aB.f (f,iv,ct,un,wk,en,mo,we,yd,md,dy,ho,mi,se,po,())) (dwi dy ∧ ∀j,j<dy.length→numd f we dy j):=by rw[aB.f_eq];exact hD.iff ⟨fun q=>⟨⟨fun j hj=>(q.1 j (oZ1 _) hj).1,q.2⟩,fun j hj=>(q.1 j (oZ1 _) hj).2⟩,fun q=>⟨fun j _ hj=>⟨q.1.1 j hj,q.2 j hj⟩,q.1.2⟩⟩
 rw[qF.f_eq];exact gF (oF mo 1 12 false (by omega)) (gF (oF we (-53) 53 false (by omega)) (gF (oF yd (-366) 366 false (by omega)) (gF (oF md (-31) 31 false (by omega)) (gF (oF ho 0 23 true (by omega)) (gF (oF mi 0 59 true (by omega)) (gF (oF se 0 59 true (by omega)) (gF (oF po (-366) 366 false (by omega)) (pU hD2))))))))
def numP :Prop:=(1≤f∧f≤7∧1≤iv∧iv≤1000∧0≤ct∧ct≤4096∧0≤wk∧wk≤6)∧(en=true→(-62135596800≤un∧un≤253402300799)∧ct=0)∧(en=false→un=0)
theorem fM1 :nC (mB.f (f,iv,ct,un,wk,en,mo,we,yd,md,dy,ho,mi,se,po,())) (numP f iv ct un wk en):=by
 have l1t:mB.l1 true (f,iv,ct,un,wk,en,mo,we,yd,md,dy,ho,mi,se,po,())=some (false,()):=by rw[mB.l1_eq,cond_true]
 have no:¬(1≤f∧f≤7∧1≤iv∧iv≤1000∧0≤ct∧ct≤4096∧0≤wk∧wk≤6)→nC (some (false,())) (numP f iv ct un wk en):=fun h=>⟨false,rfl,⟨fun q=>by simp at q,fun q=>absurd q.1 h⟩⟩
 rw[mB.f_eq];dsimp only;by_cases c:1≤f∧f≤7∧1≤iv∧iv≤1000∧0≤ct∧ct≤4096∧0≤wk∧wk≤6
 ·obtain⟨c1,c2,c3,c4,c5,c6,c7,c8⟩:=c;simp(disch:=omega)only[ss,mB.l1_eq,iF.f_eq]
  cases en with
  | true=>
   simp(disch:=omega)only[ss];by_cases d1:un ≥ -62135596800
   ·by_cases d2:un≤253402300799
    ·simp(disch:=omega)only[ss];refine⟨_,rfl,?_⟩;rw[decide_eq_true_eq];exact⟨fun q=>⟨⟨c1,c2,c3,c4,c5,c6,c7,c8⟩,fun _=>⟨⟨by omega,d2⟩,q⟩,fun q=>by cases q⟩,fun q=>(q.2.1 rfl).2⟩
    ·simp(disch:=omega)only[ss];exact⟨false,rfl,⟨fun q=>by simp at q,fun q=>by have:=(q.2.1 rfl).1;omega⟩⟩
   ·simp(disch:=omega)only[ss];exact⟨false,rfl,⟨fun q=>by simp at q,fun q=>by have:=(q.2.1 rfl).1;omega⟩⟩
  | false=>
   simp(disch:=omega)only[ss];refine⟨_,rfl,?_⟩;rw[decide_eq_true_eq];exact⟨fun q=>⟨⟨c1,c2,c3,c4,c5,c6,c7,c8⟩,(fun q=>by cases q),fun _=>q⟩,fun q=>q.2.2 rfl⟩
 ·have hb:∀{p:Prop} [Decidable p] {x:Option (Bool×Unit)},(¬p→nC x (numP f iv ct un wk en))→(p→nC (some (false,())) (numP f iv ct un wk en))→nC (bif decide p then(some (false,()))else x) (numP f iv ct un wk en):=fun {p} _ {x} h1 h2=>by
   by_cases hp:p
   ·rw[dp hp,cond_true];exact h2 hp
   ·rw[dn hp,cond_false];exact h1 hp
  have hn:=no c;rw[l1t];refine hb (fun d1=>hb (fun d2=>hb (fun d3=>hb (fun d4=>hb (fun d5=>hb (fun d6=>hb (fun d7=>?_) fun _=>hn) fun _=>hn) fun _=>hn) fun _=>hn) fun _=>hn) fun _=>hn) fun _=>hn
  have:wk>6:=by omega
  rw[dp this,l1t];exact hn
def mayP :Prop:=numP f iv ct un wk en∧zA1 f mo we yd md dy ho mi se po∧(0<we.length→f=1)∧(0<yd.length → ¬(2≤f∧f≤4))∧(0<md.length→f≠3)
theorem qX (h:fO mo we yd md dy ho mi se po):Gate (oA.f (f,iv,ct,un,wk,en,mo,we,yd,md,dy,ho,mi,se,po,())) (mayP f iv ct un wk en mo we yd md dy ho mi se po) (oA.l5 (f,iv,ct,un,wk,en,mo,we,yd,md,dy,ho,mi,se,po,())):=by
 have l1t:oA.l1 true (f,iv,ct,un,wk,en,mo,we,yd,md,dy,ho,mi,se,po,())=some (false,()):=by rw[oA.l1_eq,cond_true]
 have l2t:oA.l2 true (f,iv,ct,un,wk,en,mo,we,yd,md,dy,ho,mi,se,po,())=some (false,()):=by rw[oA.l2_eq,cond_true]
 have l3t:oA.l3 true (f,iv,ct,un,wk,en,mo,we,yd,md,dy,ho,mi,se,po,())=some (false,()):=by rw[oA.l3_eq,cond_true]
 have l4t:oA.l4 true (f,iv,ct,un,wk,en,mo,we,yd,md,dy,ho,mi,se,po,())=some (false,()):=by rw[oA.l4_eq,cond_true]
 have l4f:oA.l4 false (f,iv,ct,un,wk,en,mo,we,yd,md,dy,ho,mi,se,po,())=oA.l5 (f,iv,ct,un,wk,en,mo,we,yd,md,dy,ho,mi,se,po,()):=by rw[oA.l4_eq,cond_false]
 have g3:Gate (oA.l3 false (f,iv,ct,un,wk,en,mo,we,yd,md,dy,ho,mi,se,po,())) (0<md.length→f≠3) (oA.l5 (f,iv,ct,un,wk,en,mo,we,yd,md,dy,ho,mi,se,po,())):=by
  rw[oA.l3_eq,cond_false];by_cases c:(md.length:Int)>0
  ·rw[dp c,cond_true];by_cases c2:f=3
   ·rw[dp c2,l4t];exact⟨fun q=>absurd c2 (q (by omega)),fun _=>rfl⟩
   ·rw[dn c2,l4f];exact⟨fun _=>rfl,fun q=>absurd (fun _=>c2) q⟩
  ·rw[dn c,cond_false,l4f];exact⟨fun _=>rfl,fun q=>absurd (fun x=>by omega) q⟩
 have g2:Gate (oA.l2 false (f,iv,ct,un,wk,en,mo,we,yd,md,dy,ho,mi,se,po,())) ((0<yd.length → ¬(2≤f∧f≤4))∧(0<md.length→f≠3)) (oA.l5 (f,iv,ct,un,wk,en,mo,we,yd,md,dy,ho,mi,se,po,())):=by
  rw[oA.l2_eq,cond_false];by_cases c:(yd.length:Int)>0
  ·rw[dp c,cond_true];by_cases c2:f≥2
   ·rw[dp c2,cond_true];by_cases c3:f≤4
    ·rw[dp c3,l3t];exact⟨fun q=>absurd ⟨by omega,c3⟩ (q.1 (by omega)),fun _=>rfl⟩
    ·rw[dn c3];exact g3.iff ⟨fun q=>⟨fun _=>by omega,q⟩,fun q=>q.2⟩
   ·rw[dn c2,cond_false];exact g3.iff ⟨fun q=>⟨fun _=>by omega,q⟩,fun q=>q.2⟩
  ·rw[dn c,cond_false];exact g3.iff ⟨fun q=>⟨fun x=>by omega,q⟩,fun q=>q.2⟩
 have g1:Gate (oA.l1 false (f,iv,ct,un,wk,en,mo,we,yd,md,dy,ho,mi,se,po,())) ((0<we.length→f=1)∧(0<yd.length → ¬(2≤f∧f≤4))∧(0<md.length→f≠3)) (oA.l5 (f,iv,ct,un,wk,en,mo,we,yd,md,dy,ho,mi,se,po,())):=by
  rw[oA.l1_eq,cond_false];by_cases c:(we.length:Int)>0
  ·rw[dp c,cond_true];by_cases c2:f=1
   ·rw[dp c2,mZ1];exact g2.iff ⟨fun q=>⟨fun _=>c2,q⟩,fun q=>q.2⟩
   ·rw[dn c2,aA2,l2t];exact⟨fun q=>absurd (q.1 (by omega)) c2,fun _=>rfl⟩
  ·rw[dn c,cond_false];exact g2.iff ⟨fun q=>⟨fun x=>by omega,q⟩,fun q=>q.2⟩
 have hL:Gate ((qF.f (f,iv,ct,un,wk,en,mo,we,yd,md,dy,ho,mi,se,po,())).bind fun t2=>oA.l1 (!t2.1) (f,iv,ct,un,wk,en,mo,we,yd,md,dy,ho,mi,se,po,())) (zA1 f mo we yd md dy ho mi se po∧(0<we.length→f=1)∧(0<yd.length → ¬(2≤f∧f≤4))∧(0<md.length→f≠3)) (oA.l5 (f,iv,ct,un,wk,en,mo,we,yd,md,dy,ho,mi,se,po,())):=by
  have:=tG (vU f iv ct un wk en mo we yd md dy ho mi se po h) g1;obtain⟨b,h1,_⟩:=vU f iv ct un wk en mo we yd md dy ho mi se po h;rw[h1]at this ⊢;simp only[hZ1]at this ⊢
  cases b with
  | true=>exact this
  | false=>rw[aA2,l1t];exact this
 rw[oA.f_eq];have:=tG (fM1 f iv ct un wk en mo we yd md dy ho mi se po) hL;simp only[l1t];exact this
end
theorem mO {K:Option (Bool×Unit)} {p:Prop} (h:¬p):Gate (some (false,())) p K:=⟨fun q=>absurd q h,fun _=>rfl⟩
theorem bX1 (l:List Int) (hi:Int) (z:Bool):wi l 1 hi z↔wi l 1 hi false:=by
 unfold wi;constructor
 ·exact fun h=>⟨fun j hj=>⟨⟨(h.1 j hj).1.1,(h.1 j hj).1.2.1,fun q=>by have:=(h.1 j hj).1.1;omega⟩,(h.1 j hj).2⟩,h.2⟩
 ·exact fun h=>⟨fun j hj=>⟨⟨(h.1 j hj).1.1,(h.1 j hj).1.2.1,fun q=>by have:=(h.1 j hj).1.1;omega⟩,(h.1 j hj).2⟩,h.2⟩
section
variable (f iv ct un wk : Int) (en : Bool) (mo we yd md : List Int) (dy : List Dy) (ho mi se po : List Int)
theorem xX1 (h:fO mo we yd md dy ho mi se po):Gate (bA.f (f,iv,ct,un,wk,en,mo,we,yd,md,dy,ho,mi,se,po,())) (mayP f iv ct un wk en mo we yd md dy ho mi se po) (bA.l8 (f,iv,ct,un,wk,en,mo,we,yd,md,dy,ho,mi,se,po,())):=by
 obtain⟨h1,h2,h3,h4,h5,h6,h7,h8,h9⟩:=h;have l1t:bA.l1 true (f,iv,ct,un,wk,en,mo,we,yd,md,dy,ho,mi,se,po,())=some (false,()):=by rw[bA.l1_eq,cond_true]
 have l2t:bA.l2 true (f,iv,ct,un,wk,en,mo,we,yd,md,dy,ho,mi,se,po,())=some (false,()):=by rw[bA.l2_eq,cond_true]
 have l2f:bA.l2 false (f,iv,ct,un,wk,en,mo,we,yd,md,dy,ho,mi,se,po,())=bA.l3 (f,iv,ct,un,wk,en,mo,we,yd,md,dy,ho,mi,se,po,()):=by rw[bA.l2_eq,cond_false]
 have l4t:bA.l4 true (f,iv,ct,un,wk,en,mo,we,yd,md,dy,ho,mi,se,po,())=some (false,()):=by rw[bA.l4_eq,cond_true]
 have l5t:bA.l5 true (f,iv,ct,un,wk,en,mo,we,yd,md,dy,ho,mi,se,po,())=some (false,()):=by rw[bA.l5_eq,cond_true]
 have l5f:bA.l5 false (f,iv,ct,un,wk,en,mo,we,yd,md,dy,ho,mi,se,po,())=bA.l6 (f,iv,ct,un,wk,en,mo,we,yd,md,dy,ho,mi,se,po,()):=by rw[bA.l5_eq,cond_false]
 have l7t:bA.l7 true (f,iv,ct,un,wk,en,mo,we,yd,md,dy,ho,mi,se,po,())=some (false,()):=by rw[bA.l7_eq,cond_true]
 have l7f:bA.l7 false (f,iv,ct,un,wk,en,mo,we,yd,md,dy,ho,mi,se,po,())=bA.l8 (f,iv,ct,un,wk,en,mo,we,yd,md,dy,ho,mi,se,po,()):=by rw[bA.l7_eq,cond_false]
 have g6:Gate (bA.l6 (f,iv,ct,un,wk,en,mo,we,yd,md,dy,ho,mi,se,po,())) (∀j,j<dy.length→numd f we dy j) (bA.l8 (f,iv,ct,un,wk,en,mo,we,yd,md,dy,ho,mi,se,po,())):=by
  rw[bA.l6_eq];obtain⟨b,e1,e2⟩:=jH1 dy (by omega);rw[e1];simp only[hZ1]
  cases b with
  | false=>
   rw[cond_false,l7f];have:∀j,j<dy.length→numd f we dy j:=fun j hj hn=>absurd (e2.2 ⟨j,hj,hn⟩) (by simp)
   exact⟨fun _=>rfl,fun q=>absurd this q⟩
  | true=>
   obtain⟨j,hj,hn⟩:=e2.1 rfl;rw[cond_true];by_cases c2:f=2
   ·simp(disch:=omega)only[ss,l7f];exact⟨fun _=>rfl,fun q=>absurd (fun _ _ _=>.inl c2) q⟩
   ·by_cases c3:f=1
    ·by_cases c4:(we.length:Int)>0
     ·simp(disch:=omega)only[ss,l7t];exact mO fun q=>by rcases q j hj hn with q | q <;> omega
     ·simp(disch:=omega)only[ss,l7f];exact⟨fun _=>rfl,fun q=>absurd (fun _ _ _=>.inr ⟨c3,by omega⟩) q⟩
    ·simp(disch:=omega)only[ss,l7t];exact mO fun q=>by rcases q j hj hn with q | q <;> omega
 have g4:Gate (bA.l4 false (f,iv,ct,un,wk,en,mo,we,yd,md,dy,ho,mi,se,po,())) (((0<we.length→f=1)∧(0<yd.length → ¬(2≤f∧f≤4))∧(0<md.length→f≠3)) ∧ ∀j,j<dy.length→numd f we dy j) (bA.l8 (f,iv,ct,un,wk,en,mo,we,yd,md,dy,ho,mi,se,po,())):=by
  have hm:((0<we.length→f=1)∧(0<yd.length → ¬(2≤f∧f≤4)))→Gate (bif decide ((md.length:Int)>0)then(bA.l5 (decide (f=3)) (f,iv,ct,un,wk,en,mo,we,yd,md,dy,ho,mi,se,po,()))else(bA.l5 false (f,iv,ct,un,wk,en,mo,we,yd,md,dy,ho,mi,se,po,()))) (((0<we.length→f=1)∧(0<yd.length → ¬(2≤f∧f≤4))∧(0<md.length→f≠3)) ∧ ∀j,j<dy.length→numd f we dy j) (bA.l8 (f,iv,ct,un,wk,en,mo,we,yd,md,dy,ho,mi,se,po,())):=fun hh=>by
   by_cases c:(md.length:Int)>0
   ·rw[dp c,cond_true];by_cases c2:f=3
    ·rw[dp c2,l5t];exact mO fun q=>q.1.2.2 (by omega) c2
    ·rw[dn c2,l5f];exact g6.iff ⟨fun q=>⟨⟨hh.1,hh.2,fun _=>c2⟩,q⟩,fun q=>q.2⟩
   ·rw[dn c,cond_false,l5f];exact g6.iff ⟨fun q=>⟨⟨hh.1,hh.2,fun x=>by omega⟩,q⟩,fun q=>q.2⟩
  have hy:(0<we.length→f=1)→Gate (bif decide ((yd.length:Int)>0)then(bif decide (f≥2)then(bif decide (f≤4)then(bA.l5 true (f,iv,ct,un,wk,en,mo,we,yd,md,dy,ho,mi,se,po,()))else(bif decide ((md.length:Int)>0)then(bA.l5 (decide (f=3)) (f,iv,ct,un,wk,en,mo,we,yd,md,dy,ho,mi,se,po,()))else(bA.l5 false (f,iv,ct,un,wk,en,mo,we,yd,md,dy,ho,mi,se,po,()))))else(bif decide ((md.length:Int)>0)then(bA.l5 (decide (f=3)) (f,iv,ct,un,wk,en,mo,we,yd,md,dy,ho,mi,se,po,()))else(bA.l5 false (f,iv,ct,un,wk,en,mo,we,yd,md,dy,ho,mi,se,po,()))))else(bif decide ((md.length:Int)>0)then(bA.l5 (decide (f=3)) (f,iv,ct,un,wk,en,mo,we,yd,md,dy,ho,mi,se,po,()))else(bA.l5 false (f,iv,ct,un,wk,en,mo,we,yd,md,dy,ho,mi,se,po,())))) (((0<we.length→f=1)∧(0<yd.length → ¬(2≤f∧f≤4))∧(0<md.length→f≠3)) ∧ ∀j,j<dy.length→numd f we dy j) (bA.l8 (f,iv,ct,un,wk,en,mo,we,yd,md,dy,ho,mi,se,po,())):=fun hh=>by
   by_cases c:(yd.length:Int)>0
   ·rw[dp c,cond_true];by_cases c2:f≥2
    ·rw[dp c2,cond_true];by_cases c3:f≤4
     ·rw[dp c3,cond_true,l5t];exact mO fun q=>q.1.2.1 (by omega) ⟨by omega,c3⟩
     ·rw[dn c3,cond_false];exact hm ⟨hh,fun _=>by omega⟩
    ·rw[dn c2,cond_false];exact hm ⟨hh,fun _=>by omega⟩
   ·rw[dn c,cond_false];exact hm ⟨hh,fun x=>by omega⟩
  rw[bA.l4_eq,cond_false];by_cases c:(we.length:Int)>0
  ·rw[dp c,cond_true];by_cases c2:f=1
   ·rw[dp c2,mZ1,cond_false];exact hy fun _=>c2
   ·rw[dn c2,aA2,cond_true,l5t];exact mO fun q=>c2 (q.1.1 (by omega))
  ·rw[dn c,cond_false];exact hy fun x=>by omega
 have g3:Gate (bA.l3 (f,iv,ct,un,wk,en,mo,we,yd,md,dy,ho,mi,se,po,())) (wi mo 1 12 true∧wi we (-53) 53 false∧wi yd (-366) 366 false∧wi md (-31) 31 false∧wi po (-366) 366 false∧wi ho 0 23 true∧wi mi 0 59 true∧wi se 0 59 true∧dwi dy∧(((0<we.length→f=1)∧(0<yd.length → ¬(2≤f∧f≤4))∧(0<md.length→f≠3)) ∧ ∀j,j<dy.length→numd f we dy j)) (bA.l8 (f,iv,ct,un,wk,en,mo,we,yd,md,dy,ho,mi,se,po,())):=by
  have hlast:∀{q:Prop},Gate (bA.l4 false (f,iv,ct,un,wk,en,mo,we,yd,md,dy,ho,mi,se,po,())) q (bA.l8 (f,iv,ct,un,wk,en,mo,we,yd,md,dy,ho,mi,se,po,()))→Gate ((vA.f dy).bind fun t10=>bA.l4 (!t10.1) (f,iv,ct,un,wk,en,mo,we,yd,md,dy,ho,mi,se,po,())) (dwi dy∧q) (bA.l8 (f,iv,ct,un,wk,en,mo,we,yd,md,dy,ho,mi,se,po,())):=fun {q} hq=>by
   have:=tG (jF1 dy (by omega)) hq;obtain⟨b,e1,_⟩:=jF1 dy (by omega);rw[e1]at this ⊢;simp only[hZ1]at this ⊢
   cases b with
   | true=>exact this
   | false=>rw[aA2,l4t];exact this
  rw[bA.l3_eq];simp only[l4t];exact tG (xE mo 1 12 true (by omega)) (tG (xE we (-53) 53 false (by omega)) (tG (xE yd (-366) 366 false (by omega)) (tG (xE md (-31) 31 false (by omega)) (tG (xE po (-366) 366 false (by omega)) (tG (xE ho 0 23 true (by omega)) (tG (xE mi 0 59 true (by omega)) (tG (xE se 0 59 true (by omega)) (hlast g4))))))))
 have g3':=g3.iff (q:=zA1 f mo we yd md dy ho mi se po∧(0<we.length→f=1)∧(0<yd.length → ¬(2≤f∧f≤4))∧(0<md.length→f≠3)) (by
  rw[bX1 mo 12 true];unfold zA1;constructor
  ·rintro⟨a1,a2,a3,a4,a5,a6,a7,a8,a9,a10,a11⟩;exact⟨⟨a1,a2,a3,a4,a6,a7,a8,a5,a9,a11⟩,a10⟩
  ·rintro⟨⟨a1,a2,a3,a4,a6,a7,a8,a5,a9,a11⟩,a10⟩
   exact⟨a1,a2,a3,a4,a5,a6,a7,a8,a9,a10,a11⟩)
 have no:¬numP f iv ct un wk en→Gate (some (false,())) (mayP f iv ct un wk en mo we yd md dy ho mi se po) (bA.l8 (f,iv,ct,un,wk,en,mo,we,yd,md,dy,ho,mi,se,po,())):=fun hn=>mO fun q=>hn q.1
 have yes:numP f iv ct un wk en→Gate (bA.l3 (f,iv,ct,un,wk,en,mo,we,yd,md,dy,ho,mi,se,po,())) (mayP f iv ct un wk en mo we yd md dy ho mi se po) (bA.l8 (f,iv,ct,un,wk,en,mo,we,yd,md,dy,ho,mi,se,po,())):=fun hn=>g3'.iff ⟨fun q=>⟨hn,q⟩,fun q=>q.2⟩
 rw[bA.f_eq];dsimp only;by_cases c:1≤f∧f≤7∧1≤iv∧iv≤1000∧0≤ct∧ct≤4096∧0≤wk∧wk≤6
 ·have c':=c;obtain⟨c1,c2,c3,c4,c5,c6,c7,c8⟩:=c;simp(disch:=omega)only[ss,bA.l1_eq,cF.f_eq]
  cases en with
  | true=>
   simp(disch:=omega)only[ss];by_cases d0:ct>0
   ·simp(disch:=omega)only[ss,l2t];exact no fun q=>by have:=(q.2.1 rfl).2;omega
   ·by_cases d1:un ≥ -62135596800
    ·by_cases d2:un<253402300800
     ·simp(disch:=omega)only[ss,l2f];exact yes ⟨c',fun _=>⟨⟨by omega,by omega⟩,by omega⟩,fun q=>by cases q⟩
     ·simp(disch:=omega)only[ss,l2t];exact no fun q=>by have:=(q.2.1 rfl).1;omega
    ·simp(disch:=omega)only[ss,l2t];exact no fun q=>by have:=(q.2.1 rfl).1;omega
  | false=>
   by_cases d0:un=0
   ·simp(disch:=omega)only[ss,l2f];exact yes ⟨c',(fun q=>by cases q),fun _=>d0⟩
   ·simp(disch:=omega)only[ss,l2t];exact no fun q=>d0 (q.2.2 rfl)
 ·have hn:=no fun q=>c q.1
  have hb:∀{p:Prop} [Decidable p] {x:Option (Bool×Unit)},(¬p→Gate x (mayP f iv ct un wk en mo we yd md dy ho mi se po) (bA.l8 (f,iv,ct,un,wk,en,mo,we,yd,md,dy,ho,mi,se,po,())))→Gate (bif decide p then(some (false,()))else x) (mayP f iv ct un wk en mo we yd md dy ho mi se po) (bA.l8 (f,iv,ct,un,wk,en,mo,we,yd,md,dy,ho,mi,se,po,())):=fun {p} _ {x} h1=>by
   by_cases hp:p
   ·rw[dp hp,cond_true];exact hn
   ·rw[dn hp,cond_false];exact h1 hp
  rw[l1t];refine hb fun d1=>hb fun d2=>hb fun d3=>hb fun d4=>hb fun d5=>hb fun d6=>hb fun d7=>?_
  have:wk>6:=by omega
  rw[dp this,l1t];exact hn
theorem oJ1 :oA.l5 (f,iv,ct,un,wk,en,mo,we,yd,md,dy,ho,mi,se,po,())=bA.l8 (f,iv,ct,un,wk,en,mo,we,yd,md,dy,ho,mi,se,po,()):=by
 have e7:oA.l7 (f,iv,ct,un,wk,en,mo,we,yd,md,dy,ho,mi,se,po,())=bA.l10 (f,iv,ct,un,wk,en,mo,we,yd,md,dy,ho,mi,se,po,()):=by rw[oA.l7_eq,bA.l10_eq]
 have e6:∀b,oA.l6 b (f,iv,ct,un,wk,en,mo,we,yd,md,dy,ho,mi,se,po,())=bA.l9 b (f,iv,ct,un,wk,en,mo,we,yd,md,dy,ho,mi,se,po,()):=fun b=>by rw[oA.l6_eq,bA.l9_eq,e7]
 rw[oA.l5_eq,bA.l8_eq,e6,e6]
end
theorem cE1 (r:Rl) (h:fO r.2.2.2.2.2.2.1 r.2.2.2.2.2.2.2.1 r.2.2.2.2.2.2.2.2.1 r.2.2.2.2.2.2.2.2.2.1 r.2.2.2.2.2.2.2.2.2.2.1 r.2.2.2.2.2.2.2.2.2.2.2.1 r.2.2.2.2.2.2.2.2.2.2.2.2.1 r.2.2.2.2.2.2.2.2.2.2.2.2.2.1 r.2.2.2.2.2.2.2.2.2.2.2.2.2.2.1):oA.f r=bA.f r:=by obtain⟨f,iv,ct,un,wk,en,mo,we,yd,md,dy,ho,mi,se,po,⟨⟩⟩:=r;have g1:=qX f iv ct un wk en mo we yd md dy ho mi se po h;rw[oJ1]at g1;exact g1.eq (xX1 f iv ct un wk en mo we yd md dy ho mi se po h)
theorem rQ (r:Rl) (h:fO r.2.2.2.2.2.2.1 r.2.2.2.2.2.2.2.1 r.2.2.2.2.2.2.2.2.1 r.2.2.2.2.2.2.2.2.2.1 r.2.2.2.2.2.2.2.2.2.2.1 r.2.2.2.2.2.2.2.2.2.2.2.1 r.2.2.2.2.2.2.2.2.2.2.2.2.1 r.2.2.2.2.2.2.2.2.2.2.2.2.2.1 r.2.2.2.2.2.2.2.2.2.2.2.2.2.2.1):∃b,oA.f r=some (b,()):=by
 obtain⟨f,iv,ct,un,wk,en,mo,we,yd,md,dy,ho,mi,se,po,⟨⟩⟩:=r;have g1:=qX f iv ct un wk en mo we yd md dy ho mi se po h;by_cases hp:mayP f iv ct un wk en mo we yd md dy ho mi se po
 ·rw[g1.1 hp,oA.l5_eq];have e7:∃b,oA.l7 (f,iv,ct,un,wk,en,mo,we,yd,md,dy,ho,mi,se,po,())=some (b,()):=by
   rw[oA.l7_eq];cases decide (f>4)with
   | true=>exact⟨_,rfl⟩
   | false=>exact⟨_,rfl⟩
  have e6:∀c,∃b,oA.l6 c (f,iv,ct,un,wk,en,mo,we,yd,md,dy,ho,mi,se,po,())=some (b,()):=fun c=>by
   rw[oA.l6_eq]
   cases c with
   | true=>exact⟨_,rfl⟩
   | false=>exact e7
  cases decide ((po.length:Int)>0)with
  | true=>exact e6 _
  | false=>exact e6 _
 ·exact⟨false,g1.2 hp⟩
theorem lQ1 (l:List Int) (x:Int) (hl:l.length≤1000000):∀(k i:Nat),l.length-i=k→i≤l.length → ∃n:Int,pB.l1 l x l.length i=some (n,())∧(n≥0↔x∈l.drop i):=by
 intro k
 induction k with
 | zero=>
  intro i hk hil;refine⟨-1,?_,?_⟩
  ·rw[pB.l1_eq];simp(disch:=omega)only[ss]
  ·rw[eC2 (by omega)];simp
 | succ k ih=>
  intro i hk hil;have hlt:i<l.length:=by omega
  rw[pB.l1_eq,vB 0 hlt];by_cases c:x=l.getD i 0
  ·refine⟨i,?_,?_⟩
   ·simp(disch:=omega)only[ss]
   ·exact⟨fun _=>by rw[c];exact nZ1 ..,fun _=>by omega⟩
  ·obtain⟨n,h1,h2⟩:=ih (i+1) (by omega) (by omega);rw[xA2,yA2]at h1;refine⟨n,?_,?_⟩
   ·simp(disch:=omega)only[ss,h1]
   ·rw[h2,pZ1];exact⟨.inr,fun h=>h.resolve_left c⟩
theorem mE (l:List Int) (x:Int) (hl:l.length≤1000000):kB.f l x=some (decide (x∈l),()):=by obtain⟨n,h1,h2⟩:=lQ1 l x hl _ 0 rfl (oZ1 _);rw[yZ1]at h1;rw[pA2]at h2;rw[kB.f_eq,pB.f_eq,h1];simp only[hZ1];rw[decide_eq_decide.2 h2]
theorem tN1 (l:List Int) (x:Int) (hl:l.length≤1000000):oD.f l x=some (decide (x∈l),()):=by
 have key:∀(k i:Nat),l.length-i=k→i≤l.length→oD.l1 l x i=some (decide (x∈l.drop i),()):=by
  intro k
  induction k with
  | zero=>
   intro i hk hil;rw[oD.l1_eq,eC2 (by omega)];simp(disch:=omega)only[ss];rfl
  | succ k ih=>
   intro i hk hil;have hlt:i<l.length:=by omega
   have:=ih (i+1) (by omega) (by omega);rw[xA2,yA2]at this;rw[oD.l1_eq,vB 0 hlt];by_cases c:l.getD i 0=x
   ·rw[dp (show x∈l.getD i 0::l.drop (i+1) by rw[c];exact nZ1 ..)];simp(disch:=omega)only[ss]
   ·have e:decide (x∈l.getD i 0::l.drop (i+1))=decide (x∈l.drop (i+1)):=decide_eq_decide.2 (by rw[pZ1];exact⟨fun h=>h.resolve_left fun q=>c q.symm,.inr⟩);rw[e];simp(disch:=omega)only[ss,this]
 have:=key _ 0 rfl (oZ1 _);rw[yZ1,pA2]at this;rw[oD.f_eq];exact this
def hasP (l:List Int) (n all:Int):Prop:=l=[]∨n∈l∨n-all-1∈l
theorem zS (l:List Int) (n all:Int) (hl:l.length≤1000000) (hn:0≤n∧n≤1000) (ha:0≤all∧all≤1000):nC (bK.f l n all) (hasP l n all):=by
 unfold hasP;rw[bK.f_eq];by_cases c:l=[]
 ·subst c;rw[gB2];exact⟨true,by simp(disch:=omega)only[ss],by simp⟩
 ·have hp:¬(l.length:Int)=0:=by have:=vC2.2 c;omega
  by_cases c1:n∈l
  ·exact⟨true,by simp(disch:=omega)only[ss,mE l n hl,dp c1],by simp[c1]⟩
  ·refine⟨decide (n-all-1∈l),?_,?_⟩
   ·simp(disch:=omega)only[ss,mE l _ hl,dn c1]
   ·rw[decide_eq_true_iff];simp[c,c1]
theorem nS (y:Int) (hy:0≤y):dE.f y=some (cum y 13,()):=by
 rw[dE.f_eq,hA1 y hy];have h3:(3:Int)≤13:=by omega
 unfold cum cumT
 cases xP y with
 | true=>simp
 | false=>simp
theorem nX (n y m d:Int) (e:sA.f n=some (y,m,d,0,())):dJ.f n=some ((n,y,m,d,wk n,()),true,()):=by rw[dJ.f_eq,e];simp only[hZ1];rw[iG];rfl
theorem yR1 (n:Int) (h:¬(-719162≤n∧n≤2932896)):dJ.f n=some ((n,0,0,0,wk n,()),false,()):=by rw[dJ.f_eq,(hI1 n h).1];simp only[hZ1];rw[iG];rfl
def wdP (f:Int) (mo:List Int) (dy:List Dy) (n y m d:Int):Prop:=
 dy=[] ∨ ∃x∈dy,x.2.1=wk n∧(x.1=0∨x.1=((if f=2∨mo≠[]then d else n-fst_ y+1)-1)/7+1∨x.1 = -(((if f=2∨mo≠[]then mlen y m else cum y 13)-(if f=2∨mo≠[]then d else n-fst_ y+1))/7+1))
theorem eL1 (fr bk n y m d:Int) (l:List Dy) (hl:l.length≤1000000):∀(k i:Nat),l.length-i=k→i≤l.length →
  nC (qA.l3 fr bk l l.length i (n,y,m,d,wk n,())) (∃x∈l.drop i,x.2.1=wk n∧(x.1=0∨x.1=fr∨x.1=bk)):=by
 intro k
 induction k with
 | zero=>
  intro i hk hil;rw[qA.l3_eq,eC2 (by omega)];exact⟨false,by simp(disch:=omega)only[ss],by simp⟩
 | succ k ih=>
  intro i hk hil;have hlt:i<l.length:=by omega
  obtain⟨b,h1,h2⟩:=ih (i+1) (by omega) (by omega);rw[xA2,yA2]at h1;rw[qA.l3_eq,vB ((0,0,()):Dy) hlt];generalize hx:l.getD i ((0,0,()):Dy)=x;have hx':l.getD i ((0,0,()):Int×Int×Unit)=x:=hx;by_cases c:x.2.1=wk n∧(x.1=0∨x.1=fr∨x.1=bk)
  ·refine⟨true,?_,by simp only[true_iff];exact⟨x,nZ1 ..,c⟩⟩;obtain⟨c1,c2⟩:=c;by_cases d0:x.1=0
   ·simp(disch:=omega)only[ss,hx',qA.l4_eq]
   ·by_cases d1:x.1=fr
    ·simp(disch:=omega)only[ss,hx',qA.l4_eq]
    ·have d2:x.1=bk:=by omega
     simp(disch:=omega)only[ss,hx',qA.l4_eq]
  ·refine⟨b,?_,?_⟩
   ·by_cases c1:x.2.1=wk n
    ·have d0:¬x.1=0:=fun q=>c ⟨c1,.inl q⟩
     have d1:¬x.1=fr:=fun q=>c ⟨c1,.inr (.inl q)⟩
     have d2:¬x.1=bk:=fun q=>c ⟨c1,.inr (.inr q)⟩
     simp(disch:=omega)only[ss,hx',qA.l4_eq,h1]
    ·simp(disch:=omega)only[ss,hx',qA.l4_eq,h1]
   ·rw[h2];constructor
    ·rintro⟨z,hz,h⟩;exact⟨z,jZ1 _ hz,h⟩
    ·rintro⟨z,hz,h⟩;rcases pZ1.1 hz with e | hz
     ·exact absurd (e ▸ h) c
     ·exact⟨z,hz,h⟩
section
variable (f iv ct un wkst : Int) (en : Bool) (mo we yd md : List Int) (dy : List Dy) (ho mi se po : List Int)
theorem fN1 (n y m d:Int) (hs:mo.length≤100000∧dy.length≤100000) (h:uG n y m d) (e:sA.f n=some (y,m,d,0,())):
  nC (qA.f (f,iv,ct,un,wkst,en,mo,we,yd,md,dy,ho,mi,se,po,()) (n,y,m,d,wk n,())) (wdP f mo dy n y m d):=by
 obtain⟨q1,q2,q3,q4,q5,q6⟩:=vE h;obtain⟨v1,v2,v3,v4⟩:=fC.1 h.1;have hy:=lJ y (by omega);have h13:=fH1 y;have hs13:=bG y v1;have hml:=eJ y m;have hl0:=eL1;unfold wdP;rw[qA.f_eq];by_cases c:dy=[]
 ·subst c;exact⟨true,by simp(disch:=omega)only[ss,gB2],by simp⟩
 ·have hp:¬(dy.length:Int)=0:=by have:=vC2.2 c;omega
  have go:∀at_ all:Int,1≤at_→at_≤all→all≤400→nC (qA.l2 at_ all (f,iv,ct,un,wkst,en,mo,we,yd,md,dy,ho,mi,se,po,()) (n,y,m,d,wk n,())) (∃x∈dy,x.2.1=wk n∧(x.1=0∨x.1=(at_-1)/7+1∨x.1 = -((all-at_)/7+1))):=fun at_ all a1 a2 a3=>by
   have:=eL1 ((at_-1)/7+1) (-((all-at_)/7+1)) n y m d dy (by omega) _ 0 rfl (oZ1 _);rw[yZ1,pA2]at this;have e0:0-((all-at_)/7+1) = -((all-at_)/7+1):=by omega
   rw[qA.l2_eq];simp(disch:=omega)only[ss,tdn (show(0:Int)≤at_-1 by omega),tdn (show(0:Int)≤all-at_ by omega),e0];exact this
  have e1:=qP n y m d h e;have e2:=nS y (by omega);have e3:=cG y m (by omega);by_cases c2:f=2∨mo≠[]
  ·have l1:qA.l1 (n-fst_ y+1) (cum y 13) true (f,iv,ct,un,wkst,en,mo,we,yd,md,dy,ho,mi,se,po,()) (n,y,m,d,wk n,())=qA.l2 d (mlen y m) (f,iv,ct,un,wkst,en,mo,we,yd,md,dy,ho,mi,se,po,()) (n,y,m,d,wk n,()):=by rw[qA.l1_eq];simp(disch:=omega)only[ss,e3]
   rw[if_pos c2,if_pos c2];have g:=go d (mlen y m) v3 v4 (by omega);have hc:(dy=[] ∨ ∃x∈dy,x.2.1=wk n∧(x.1=0∨x.1=(d-1)/7+1∨x.1 = -((mlen y m-d)/7+1)))↔(∃x∈dy,x.2.1=wk n∧(x.1=0∨x.1=(d-1)/7+1∨x.1 = -((mlen y m-d)/7+1))):=⟨fun h=>h.resolve_left c,.inr⟩
   refine nC.iff ?_ hc.symm;by_cases c3:f=2
   ·simp(disch:=omega)only[ss,e1,e2,l1];exact g
   ·have hm:mo≠[]:=c2.resolve_left c3;have hmp:(mo.length:Int)>0:=by have:=vC2.2 hm;omega
    simp(disch:=omega)only[ss,e1,e2,l1];exact g
  ·rw[if_neg c2,if_neg c2];have c3:¬f=2:=fun q=>c2 (.inl q)
   have c4:mo=[]:=Classical.byContradiction fun q=>c2 (.inr q)
   subst c4;have l1:qA.l1 (n-fst_ y+1) (cum y 13) false (f,iv,ct,un,wkst,en,[],we,yd,md,dy,ho,mi,se,po,()) (n,y,m,d,wk n,())=qA.l2 (n-fst_ y+1) (cum y 13) (f,iv,ct,un,wkst,en,[],we,yd,md,dy,ho,mi,se,po,()) (n,y,m,d,wk n,()):=by rw[qA.l1_eq,cond_false]
   have g:=go (n-fst_ y+1) (cum y 13) (by omega) (by omega) (by omega);have hc:(dy=[] ∨ ∃x∈dy,x.2.1=wk n∧(x.1=0∨x.1=(n-fst_ y+1-1)/7+1∨x.1 = -((cum y 13-(n-fst_ y+1))/7+1)))↔(∃x∈dy,x.2.1=wk n∧(x.1=0∨x.1=(n-fst_ y+1-1)/7+1∨x.1 = -((cum y 13-(n-fst_ y+1))/7+1))):=⟨fun h=>h.resolve_left c,.inr⟩
   refine nC.iff ?_ hc.symm;have hnil:(([]:List Int).length:Int)=0:=rfl;simp(disch:=omega)only[ss,e1,e2,hnil,l1];exact g
def stP (m0 d0 w0 n m d:Int):Prop:=(yd≠[]∨md≠[]∨dy≠[])∨((we≠[]∧wk n=w0)∨(we=[]∧((f=1∧d=d0∧(mo≠[]∨m=m0))∨(f=2∧d=d0)∨(f=3∧wk n=w0)∨(f≠1∧f≠2∧f≠3))))
theorem mH {α:Type} {l:List α}:l≠[]↔(l.length:Int)>0:=by rw[←vC2];omega
theorem lG1 (s sec n0 y0 m0 d0 w0 n y m d:Int) (hs:mo.length≤100000∧we.length≤100000∧yd.length≤100000∧md.length≤100000∧dy.length≤100000):
  nC (fE.f ((f,iv,ct,un,wkst,en,mo,we,yd,md,dy,ho,mi,se,po,()),s,(n0,y0,m0,d0,w0,()),sec,()) (n,y,m,d,wk n,())) (stP f mo we yd md dy m0 d0 w0 n m d):=by
 unfold stP;rw[fE.f_eq];by_cases c:yd≠[]∨md≠[]∨dy≠[]
 ·have hp:(yd.length:Int)+(md.length:Int)+(dy.length:Int)>0:=by rw[mH,mH,mH]at c;omega
  exact⟨true,by simp(disch:=omega)only[ss],by simp[c]⟩
 ·have hp:¬(yd.length:Int)+(md.length:Int)+(dy.length:Int)>0:=by rw[mH,mH,mH]at c;omega
  by_cases c1:we=[]
  ·subst c1;have hnil:(([]:List Int).length:Int)=0:=rfl;by_cases f1:f=1
   ·subst f1;by_cases dd:d=d0
    ·by_cases mm_:mo=[]
     ·subst mm_;refine⟨decide (m=m0),by simp(disch:=omega)only[ss,hnil],?_⟩;rw[decide_eq_true_iff];simp[c,dd]
     ·have hmp:(mo.length:Int)>0:=mH.1 mm_;exact⟨true,by simp(disch:=omega)only[ss,hnil],by simp[dd,mm_]⟩
    ·exact⟨false,by simp(disch:=omega)only[ss,hnil],by simp[c,dd]⟩
   ·by_cases f2:f=2
    ·subst f2;refine⟨decide (d=d0),by simp(disch:=omega)only[ss,hnil],?_⟩;rw[decide_eq_true_iff];simp[c]
    ·by_cases f3:f=3
     ·subst f3;refine⟨decide (wk n=w0),by simp(disch:=omega)only[ss,hnil],?_⟩;rw[decide_eq_true_iff];simp[c]
     ·exact⟨true,by simp(disch:=omega)only[ss,hnil],by simp[f1,f2,f3]⟩
  ·have hwp:(we.length:Int)>0:=mH.1 c1;refine⟨decide (wk n=w0),by simp(disch:=omega)only[ss],?_⟩;rw[decide_eq_true_iff];simp[c,c1]
def wkP (n:Int):Prop:=we=[] ∨ ∃Y k,qV n wkst Y k∧1≤Y∧Y≤9999∧hasP we k (wks Y wkst)
theorem mL1 (n y m d:Int) (hs:we.length≤100000) (h:uG n y m d) (hw:0≤wkst∧wkst≤6):
  nC (nG.f (f,iv,ct,un,wkst,en,mo,we,yd,md,dy,ho,mi,se,po,()) (n,y,m,d,wk n,())) (wkP wkst we n):=by
 obtain⟨q1,q2,q3,q4,q5,q6⟩:=vE h;unfold wkP;rw[nG.f_eq];by_cases c:we=[]
 ·subst c;exact⟨true,by simp(disch:=omega)only[ss,gB2],by simp⟩
 ·have hwp:(we.length:Int)>0:=mH.1 c;obtain⟨Y,k,w1_,w2,w3,w4,w5,w6,_⟩:=aR n wkst q5 q6 hw.1 hw.2;have hW:=lH1 Y wkst;by_cases cY:1≤Y∧Y≤9999
  ·rw[if_pos ⟨cY,hw⟩]at hW;have hb:=zU1 Y wkst (by omega);obtain⟨b,h1,h2⟩:=zS we k (wks Y wkst) (by omega) (by omega) (by omega);refine⟨b,by simp(disch:=omega)only[ss,w6,hW,h1],?_⟩;rw[h2];constructor
   ·exact fun h=>.inr ⟨Y,k,w1_,cY.1,cY.2,h⟩
   ·rintro(q | ⟨Y',k',x1,x2,x3,x4⟩)
    ·exact absurd q c
    ·obtain⟨e1,e2⟩:=rN w2 (by omega) w1_ x1;rw[e1,e2];exact x4
  ·rw[if_neg fun q=>cY q.1]at hW;refine⟨false,by simp(disch:=omega)only[ss,w6,hW],?_⟩;simp only[mA2,false_iff];rintro(q | ⟨Y',k',x1,x2,x3,_⟩)
   ·exact c q
   ·obtain⟨e1,_⟩:=rN w2 (by omega) w1_ x1;exact cY (by omega)
end
def zI (r:Rl):Prop:=fO r.2.2.2.2.2.2.1 r.2.2.2.2.2.2.2.1 r.2.2.2.2.2.2.2.2.1 r.2.2.2.2.2.2.2.2.2.1 r.2.2.2.2.2.2.2.2.2.2.1 r.2.2.2.2.2.2.2.2.2.2.2.1 r.2.2.2.2.2.2.2.2.2.2.2.2.1 r.2.2.2.2.2.2.2.2.2.2.2.2.2.1 r.2.2.2.2.2.2.2.2.2.2.2.2.2.2.1
theorem aJ {p:Prop} [Decidable p] {X:Option (Bool×Unit)} {Q:Prop} (h:p → ∃b,X=some (b,())∧(b=true→Q)):∃b,(bif decide p then X else some (false,()))=some (b,())∧(b=true→Q):=by
 by_cases c:p
 ·rw[dp c];exact h c
 ·rw[dn c];exact⟨false,rfl,fun q=>by cases q⟩
theorem iO1 (r:Rl):∃b,yF.f r=some (b,())∧(b=true→zI r):=by
 rw[yF.f_eq];refine aJ fun h1=>aJ fun h2=>aJ fun h3=>aJ fun h4=>aJ fun h5=>aJ fun h6=>aJ fun h7=>aJ fun h8=>⟨_,rfl,fun h9=>?_⟩
 rw[decide_eq_true_iff]at h9;unfold zI fO;omega
theorem bV1 {r:Rl} (hs:zI r) (hM:oA.f r=some (true,())):mayP r.1 r.2.1 r.2.2.1 r.2.2.2.1 r.2.2.2.2.1 r.2.2.2.2.2.1 r.2.2.2.2.2.2.1 r.2.2.2.2.2.2.2.1 r.2.2.2.2.2.2.2.2.1 r.2.2.2.2.2.2.2.2.2.1 r.2.2.2.2.2.2.2.2.2.2.1 r.2.2.2.2.2.2.2.2.2.2.2.1 r.2.2.2.2.2.2.2.2.2.2.2.2.1 r.2.2.2.2.2.2.2.2.2.2.2.2.2.1 r.2.2.2.2.2.2.2.2.2.2.2.2.2.2.1:=by
 have g:=qX r.1 r.2.1 r.2.2.1 r.2.2.2.1 r.2.2.2.2.1 r.2.2.2.2.2.1 r.2.2.2.2.2.2.1 r.2.2.2.2.2.2.2.1 r.2.2.2.2.2.2.2.2.1 r.2.2.2.2.2.2.2.2.2.1 r.2.2.2.2.2.2.2.2.2.2.1 r.2.2.2.2.2.2.2.2.2.2.2.1 r.2.2.2.2.2.2.2.2.2.2.2.2.1 r.2.2.2.2.2.2.2.2.2.2.2.2.2.1 r.2.2.2.2.2.2.2.2.2.2.2.2.2.2.1 hs;refine Classical.byContradiction fun q=>?_
 have h1:oA.f r=some (false,()):=g.2 q;rw[hM]at h1;cases h1
abbrev inT (t:Int):Prop:= -62135596800≤t∧t≤253402300799
theorem sK {t:Int} (h:inT t): -719162≤t/86400∧t/86400≤2932896:=by unfold inT at h;omega
theorem bJ (r:Rl) (s:Int) (hM:oA.f r=some (true,())) (ht:inT s) (y m d:Int) (e:sA.f (s/86400)=some (y,m,d,0,())):
  xD.f r s=some ((r,s,(s/86400,y,m,d,wk (s/86400),()),s%86400,()),true,()):=by
 have hS:iF.f s=some (true,()):=by rw[(qN s).1,dp ht]
 have hD:=(xF s (by unfold inT at ht;omega) (by unfold inT at ht;omega)).1;rw[xD.f_eq,hM];simp(disch:=omega)only[ss,hS,xD.l1_eq,hD,nX _ _ _ _ e]
theorem wS1 (r:Rl) (s:Int) (b:Bool) (hM:oA.f r=some (b,())) (h:¬(b=true∧inT s)):xD.f r s=some (((0,0,0,0,0,false,[],[],[],[],[],[],[],[],[],()),0,(0,0,0,0,0,()),0,()),false,()):=by
 rw[xD.f_eq,hM]
 cases b with
 | false=>simp(disch:=omega)only[ss,xD.l1_eq]
 | true=>
  have hS:iF.f s=some (false,()):=by rw[(qN s).1,dn (show ¬inT s from fun q=>h ⟨rfl,q⟩)]
  simp(disch:=omega)only[ss,hS,xD.l1_eq]
section
variable (f iv ct un wkst : Int) (en : Bool) (mo we yd md : List Int) (dy : List Dy) (ho mi se po : List Int)
def fitP (m0 d0 w0 n y m d:Int):Prop:=(mo=[]∨m∈mo)∧hasP yd (n-fst_ y+1) (cum y 13)∧hasP md d (mlen y m)∧wdP f mo dy n y m d∧stP f mo we yd md dy m0 d0 w0 n m d∧wkP wkst we n
theorem uJ1 (s sec n0 y0 m0 d0 w0 n y m d:Int) (hs:fO mo we yd md dy ho mi se po) (hw:0≤wkst∧wkst≤6) (h:uG n y m d) (e:sA.f n=some (y,m,d,0,())):
  nC (fB.f ((f,iv,ct,un,wkst,en,mo,we,yd,md,dy,ho,mi,se,po,()),s,(n0,y0,m0,d0,w0,()),sec,()) n) (fitP f wkst mo we yd md dy m0 d0 w0 n y m d):=by
 obtain⟨k1,k2,k3,k4,k5,k6,k7,k8,k9⟩:=hs;obtain⟨q1,q2,q3,q4,q5,q6⟩:=vE h;obtain⟨v1,v2,v3,v4⟩:=fC.1 h.1;have h13:=fH1 y;have hs13:=bG y v1;have hml:=eJ y m;have t1:=zS yd (n-fst_ y+1) (cum y 13) (by omega) (by omega) (by omega);have t2:=zS md d (mlen y m) (by omega) (by omega) (by omega);have t3:=fN1 f iv ct un wkst en mo we yd md dy ho mi se po n y m d ⟨k1,k5⟩ h e;have t4:=lG1 f iv ct un wkst en mo we yd md dy ho mi se po s sec n0 y0 m0 d0 w0 n y m d ⟨k1,k2,k3,k4,k5⟩;have t5:=mL1 f iv ct un wkst en mo we yd md dy ho mi se po n y m d k2 h hw;have tl:=pU t5;have ta:=gF t4 tl;have tb:=gF t3 ta;have hL:nC (fB.l2 n ((f,iv,ct,un,wkst,en,mo,we,yd,md,dy,ho,mi,se,po,()),s,(n0,y0,m0,d0,w0,()),sec,()) (n,y,m,d,wk n,())) (hasP yd (n-fst_ y+1) (cum y 13)∧hasP md d (mlen y m)∧wdP f mo dy n y m d∧stP f mo we yd md dy m0 d0 w0 n m d∧wkP wkst we n):=by rw[fB.l2_eq,qP n y m d h e];simp only[hZ1];rw[nS y (by omega)];simp only[hZ1];refine gF t1 ?_;rw[cG y m (by omega)];simp only[hZ1];exact gF t2 tb
 unfold fitP;rw[fB.f_eq,nX n y m d e];simp only[hZ1,mZ1,cond_false];by_cases c:mo=[]
 ·subst c;have hnil:(([]:List Int).length:Int)=0:=rfl;simp(disch:=omega)only[ss,hnil,fB.l1_eq];exact hL.iff ⟨fun q=>⟨.inl trivial,q⟩,fun q=>q.2⟩
 ·have hmp:(mo.length:Int)>0:=mH.1 c;by_cases cm:m∈mo
  ·simp(disch:=omega)only[ss,mE mo m (by omega),dp cm,fB.l1_eq];exact hL.iff ⟨fun q=>⟨.inr cm,q⟩,fun q=>q.2⟩
  ·simp(disch:=omega)only[ss,mE mo m (by omega),dn cm,fB.l1_eq];exact⟨false,rfl,by simp[c,cm]⟩
theorem uL1 (s sec n0 y0 m0 d0 w0 n:Int) (h:¬(-719162≤n∧n≤2932896)):fB.f ((f,iv,ct,un,wkst,en,mo,we,yd,md,dy,ho,mi,se,po,()),s,(n0,y0,m0,d0,w0,()),sec,()) n=some (false,()):=by rw[fB.f_eq,yR1 n h];simp(disch:=omega)only[ss,fB.l1_eq]
end
theorem oL1 (l:List Int) (h:l.length≤1000000):lF.f l=some (l,()):=by have hlim:yC=17179869184:=rfl;rw[lF.f_eq];simp(disch:=omega)only[ss,gB2,hlim,lA2]
def Rise (l:List Int):Prop:=l.Pairwise (· < ·)
theorem wD {x:Int} {l:List Int}:Rise (x::l)↔(∀y,y∈l→x<y)∧Rise l:=tA2
theorem tF :Rise []:=List.Pairwise.nil
theorem tL {a b:List Int}:Rise (a++b)↔Rise a∧Rise b ∧ ∀x,x∈a → ∀y,y∈b→x<y:=dB2
theorem qI :∀{a b:List Int},Rise a→Rise b→(∀x,x∈a↔x∈b)→a=b
 | [],[],_,_,_=>rfl
 | [],y::b,_,_,h=>absurd ((h y).2 (nZ1 ..)) (by simp)
 | x::a,[],_,_,h=>absurd ((h x).1 (nZ1 ..)) (by simp)
 | x::a,y::b,ha,hb,h=>by
  have pa:=wD.1 ha;have pb:=wD.1 hb;have e:x=y:=by
   rcases pZ1.1 ((h x).1 (nZ1 ..))with e | e
   ·exact e
   ·rcases pZ1.1 ((h y).2 (nZ1 ..))with f | f
    ·exact f.symm
    ·have:=pb.1 x e;have:=pa.1 y f;omega
  subst e;have:a=b:=by
   refine qI pa.2 pb.2 fun z=>⟨fun hz=>?_,fun hz=>?_⟩
   ·rcases pZ1.1 ((h z).1 (jZ1 _ hz))with e | e
    ·have:=pa.1 z hz;omega
    ·exact e
   ·rcases pZ1.1 ((h z).2 (jZ1 _ hz))with e | e
    ·have:=pb.1 z hz;omega
    ·exact e
  rw[this]
theorem nL :∀{l:List Int},Rise l → ∀{i j:Nat},i<j→j<l.length→l.getD i 0<l.getD j 0
 | [],_,_,_,_,h=>absurd h (by simp)
 | x::l,hr,0,0,h,_=>absurd h (by omega)
 | x::l,hr,0,j+1,_,h=>by
  have hj:j<l.length:=by simpa using h
  rw[List.getD_cons_zero,List.getD_cons_succ,rO 0 hj];exact(wD.1 hr).1 _ (List.getElem_mem hj)
 | x::l,hr,i+1,0,h,_=>absurd h (by omega)
 | x::l,hr,i+1,j+1,h,h2=>by rw[List.getD_cons_succ,List.getD_cons_succ];exact nL (wD.1 hr).2 (by omega) (by simpa using h2)
theorem dO1 {l:List Int} (hr:Rise l) {i j:Nat} (hi:i<l.length) (hj:j<l.length) (e:l.getD i 0=l.getD j 0):i=j:=by
 rcases Nat.lt_trichotomy i j with h | h | h
 ·have:=nL hr h hj;omega
 ·exact h
 ·have:=nL hr h hi;omega
theorem wD1 :∀{l:List Int},(∀j,0<j→j<l.length→l.getD (j-1) 0<l.getD j 0)→Rise l
 | [],_=>tF
 | [x],_=>wD.2 ⟨fun y h=>absurd h (by simp),tF⟩
 | x::y::l,h=>by
  have hr:Rise (y::l):=wD1 fun j h0 hj=>by
   have:=h (j+1) (by omega) (by simpa using hj)
   match j,h0 with
   | j+1,_=>simpa using this
  have hxy:x<y:=by simpa using h 1 (by omega) (by simp)
  refine wD.2 ⟨fun z hz=>?_,hr⟩;rcases pZ1.1 hz with e | e
  ·omega
  ·have:=(wD.1 hr).1 z e;omega
theorem qW {l:List Int} {x:Int} (h:x∈l):∃i,i<l.length∧l.getD i 0=x:=by obtain⟨i,hi,e⟩:=List.mem_iff_getElem.1 h;exact⟨i,hi,by rw[rO 0 hi,e]⟩
theorem bI {l:List Int} {i:Nat} (h:i<l.length):l.getD i 0∈l:=by rw[rO 0 h];exact List.getElem_mem h
theorem wA1 {l:List Int} (h:Rise l) (n:Nat):Rise (l.take n):=List.Pairwise.sublist (List.take_sublist n l) h
def tod (h m c:List Int):List Int:=h.flatMap fun a=>m.flatMap fun b=>c.map fun s=>3600*a+60*b+s
def inR (l:List Int) (hi:Int):Prop:=∀x,x∈l→0≤x∧x≤hi
theorem cC1 {h m c:List Int} (hm:inR m 59) (hc:inR c 59) (x:Int):x∈tod h m c↔x/3600∈h∧x/60%60∈m∧x%60∈c:=by
 unfold tod;rw[yB2];constructor
 ·rintro⟨a,ha,hx⟩;obtain⟨b,hb,hx⟩:=yB2.1 hx;obtain⟨s,hs,e⟩:=bA2.1 hx;have:=hm b hb;have:=hc s hs;have e1:x/3600=a:=by omega
  have e2:x/60%60=b:=by omega
  have e3:x%60=s:=by omega
  rw[e1,e2,e3];exact⟨ha,hb,hs⟩
 ·rintro⟨h1,h2,h3⟩;exact⟨_,h1,yB2.2 ⟨_,h2,bA2.2 ⟨_,h3,by omega⟩⟩⟩
theorem kX {l:List Int} (h:Rise l) (f:Int→Int) (hf:∀x y,x<y→f x<f y):Rise (l.map f):=by unfold Rise;rw[List.pairwise_map];exact List.Pairwise.imp (fun {a b} h=>hf a b h) h
theorem bN :∀{l:List Int} {f:Int→List Int},Rise l→(∀a,a∈l→Rise (f a))→(∀a b,a∈l→b∈l→a<b → ∀x,x∈f a → ∀y,y∈f b→x<y)→Rise (l.flatMap f)
 | [],_,_,_,_=>tF
 | a::l,f,h,h1,h2=>by rw[gC2,tL];have p:=wD.1 h;refine⟨h1 a (nZ1 ..),bN p.2 (fun b hb=>h1 b (jZ1 _ hb)) (fun b b' hb hb'=>h2 b b' (jZ1 _ hb) (jZ1 _ hb')),fun x hx y hy=>?_⟩;obtain⟨b,hb,hy⟩:=yB2.1 hy;exact h2 a b (nZ1 ..) (jZ1 _ hb) (p.1 b hb) x hx y hy
theorem cQ1 {h m c:List Int} (rh:Rise h) (rm:Rise m) (rc:Rise c) (hm:inR m 59) (hc:inR c 59):Rise (tod h m c):=by
 refine bN rh (fun a ha=>bN rm (fun b hb=>kX rc _ fun x y h=>by omega) ?_) ?_
 ·intro b b' hb hb' hlt x hx y hy;obtain⟨s,hs,e⟩:=bA2.1 hx;obtain⟨s',hs',e'⟩:=bA2.1 hy;have:=hc s hs;have:=hc s' hs';omega
 ·intro b b' hb hb' hlt x hx y hy;obtain⟨d,hd,hx⟩:=yB2.1 hx;obtain⟨d',hd',hy⟩:=yB2.1 hy;obtain⟨s,hs,e⟩:=bA2.1 hx;obtain⟨s',hs',e'⟩:=bA2.1 hy;have:=hc s hs;have:=hc s' hs';have:=hm d hd;have:=hm d' hd';omega
theorem wW1 {h m c:List Int} (hh:inR h 23) (hm:inR m 59) (hc:inR c 59):inR (tod h m c) 86399:=by intro x hx;have⟨h1,h2,h3⟩:=(cC1 hm hc x).1 hx;have:=hh _ h1;omega
def dayL (h m c:List Int) (lo hi d:Int):List Int:=((tod h m c).filter fun x=>decide (lo≤x)&&decide (x<hi)).map (fun x=>d*86400+x)
theorem gN {h m c:List Int} (hh:inR h 23) (hm:inR m 59) (hc:inR c 59) (lo hi d x:Int):
  x∈dayL h m c lo hi d↔x/86400=d∧x%86400∈tod h m c∧lo≤x%86400∧x%86400<hi:=by
 unfold dayL;rw[bA2];constructor
 ·rintro⟨z,hz,e⟩;have⟨h1,h2⟩:=oB2.1 hz;have:=wW1 hh hm hc z h1;have e1:x%86400=z:=by omega
  rw[e1];simp only[iZ1,decide_eq_true_eq]at h2;exact⟨by omega,h1,h2.1,h2.2⟩
 ·rintro⟨h1,h2,h3,h4⟩;exact⟨x%86400,oB2.2 ⟨h2,by simp[h3,h4]⟩,by omega⟩
theorem lT {h m c:List Int} (rh:Rise h) (rm:Rise m) (rc:Rise c) (hm:inR m 59) (hc:inR c 59) (lo hi d:Int):Rise (dayL h m c lo hi d):=by
 refine kX ?_ _ fun x y h=>by omega
 exact List.Pairwise.sublist List.filter_sublist (cQ1 rh rm rc hm hc)
def setF (fits:Int→Bool) (h m c:List Int) (lo hi:Int):Nat→Int→List Int
 | 0,_=>[]
 | k+1,d=>(if fits d=true then dayL h m c lo hi d else [])++setF fits h m c lo hi k (d+1)
theorem sW {fits:Int→Bool} {h m c:List Int} (hh:inR h 23) (hm:inR m 59) (hc:inR c 59) (lo hi x:Int):∀(k:Nat) (d:Int),
  x∈setF fits h m c lo hi k d↔d≤x/86400∧x/86400<d+k∧fits (x/86400)=true∧x%86400∈tod h m c∧lo≤x%86400∧x%86400<hi
 | 0,d=>by
  constructor
  ·intro hx;exact absurd hx (by simp[setF])
  ·rintro⟨h1,h2,_⟩;omega
 | k+1,d=>by
  unfold setF;rw[sZ1,sW hh hm hc lo hi x k (d+1)];constructor
  ·rintro(h1 | ⟨h1,h2,h3⟩)
   ·by_cases hf:fits d=true
    ·rw[if_pos hf,gN hh hm hc]at h1;obtain⟨e,h1⟩:=h1;rw[e];exact⟨by omega,by omega,hf,h1⟩
    ·rw[if_neg hf]at h1;exact absurd h1 (by simp)
   ·exact⟨by omega,by omega,h3⟩
  ·rintro⟨h1,h2,h3,h4⟩;by_cases e:x/86400=d
   ·rw[e]at h3;rw[if_pos h3,gN hh hm hc];exact Or.inl ⟨e,h4⟩
   ·exact Or.inr ⟨by omega,by omega,h3,h4⟩
theorem bA1 {fits:Int→Bool} {h m c:List Int} (rh:Rise h) (rm:Rise m) (rc:Rise c) (hh:inR h 23) (hm:inR m 59) (hc:inR c 59) (lo hi:Int):∀(k:Nat) (d:Int),
  Rise (setF fits h m c lo hi k d)
 | 0,_=>tF
 | k+1,d=>by
  unfold setF;rw[tL];refine⟨?_,bA1 rh rm rc hh hm hc lo hi k (d+1),?_⟩
  ·by_cases hf:fits d=true
   ·rw[if_pos hf];exact lT rh rm rc hm hc lo hi d
   ·rw[if_neg hf];exact tF
  ·intro x hx y hy;have hy:=(sW hh hm hc lo hi y k (d+1)).1 hy;by_cases hf:fits d=true
   ·rw[if_pos hf,gN hh hm hc]at hx;omega
   ·rw[if_neg hf]at hx;exact absurd hx (by simp)
def upTo (n:Nat):List Int:=(List.range n).map fun(j:Nat)=>(j:Int)
theorem fS (n:Nat):upTo (n+1)=upTo n++[(n:Int)]:=by unfold upTo;rw[List.range_succ,dA2];rfl
theorem gW (n:Nat):(upTo n).length=n:=by unfold upTo;simp
theorem eF1 {n:Nat} {x:Int}:x∈upTo n↔0≤x∧x<n:=by
 unfold upTo;rw[bA2];constructor
 ·rintro⟨j,hj,e⟩;have:=List.mem_range.1 hj;omega
 ·rintro⟨h0,h1⟩;exact⟨x.toNat,List.mem_range.2 (by omega),by omega⟩
theorem nZ :∀n,Rise (upTo n)
 | 0=>tF
 | n+1=>by rw[fS,tL];refine⟨nZ n,wD.2 ⟨fun y h=>absurd h (by simp),tF⟩,fun x hx y hy=>?_⟩;have:=eF1.1 hx;have:=iA2.1 hy;omega
theorem dS1 (all:Nat) (h:all≤1000):∀(k i:Nat),all-i=k→i≤all→lD.l1 (all:Int) (i:Int) (upTo i)=some (upTo all,()):=by
 have hlim:yC=17179869184:=rfl;intro k
 induction k with
 | zero=>
  intro i hk hil;have e:i=all:=by omega
  subst e;rw[lD.l1_eq];simp(disch:=omega)only[ss]
 | succ k ih=>
  intro i hk hil;have hlen:=gW i;have:=ih (i+1) (by omega) (by omega);rw[fS,xA2,yA2]at this;rw[lD.l1_eq];simp(disch:=omega)only[ss,hlen,sA2,hlim];exact this
theorem vN1 (all:Nat) (h:all≤1000):∀(k i:Nat),all-i=k→i≤all→jD.l1 (all:Int) (i:Int) (upTo i)=some (upTo all,()):=by
 have hlim:yC=17179869184:=rfl;intro k
 induction k with
 | zero=>
  intro i hk hil;have e:i=all:=by omega
  subst e;rw[jD.l1_eq];simp(disch:=omega)only[ss]
 | succ k ih=>
  intro i hk hil;have hlen:=gW i;have:=ih (i+1) (by omega) (by omega);rw[fS,xA2,yA2]at this;rw[jD.l1_eq];simp(disch:=omega)only[ss,hlen,sA2,hlim];exact this
def tms (l:List Int) (single:Bool) (n:Int) (all:Nat):List Int:=if l=[]then(if single=true then [n]else upTo all)else l
theorem zL (l:List Int) (single:Bool) (n:Int) (all:Nat) (hl:l.length≤1000000) (hb:all≤100):
  lD.f l single n (all:Int)=some (tms l single n all,())∧rD.f l single n (all:Int)=some (tms l single n all,()):=by
 have hlim:yC=17179869184:=rfl;unfold tms;rw[lD.f_eq,rD.f_eq];by_cases c:l=[]
 ·subst c;have hnil:(([]:List Int).length:Int)=0:=rfl;rw[if_pos rfl]
  cases single with
  | true=>
   rw[if_pos rfl];simp(disch:=omega)only[ss,hnil];exact⟨trivial,trivial⟩
  | false=>
   have hl:=dS1 all (by omega) all 0 (by omega) (oZ1 _);have hv:=vN1 all (by omega) all 0 (by omega) (oZ1 _);rw[yZ1]at hl hv;rw[if_neg (by simp)];simp(disch:=omega)only[ss,hnil,jD.f_eq];have e:upTo 0=[]:=rfl;rw[e]at hl hv;rw[hl,hv];exact⟨rfl,rfl⟩
 ·have hp:(l.length:Int)>0:=mH.1 c;have hC:iC.f l=some (l,()):=by rw[iC.f_sem];show(bif decide (l.length≤yC)then some (l,())else none)=_;simp(disch:=omega)only[ss,hlim]
  rw[if_neg c];simp(disch:=omega)only[ss,hC,oL1 l hl];exact⟨trivial,trivial⟩
def okT (x:List Int) (hi:Int):Prop:=Rise x∧inR x hi∧x.length≤60
theorem yU1 {l:List Int} {lo hi:Int} {z:Bool} (h:wi l lo hi z):Rise l:=wD1 fun j h0 hj=>(h.1 j hj).2 h0
theorem aJ1 (l:List Int) (single:Bool) (n hi:Int) (all:Nat) (hw:wi l 0 hi true) (hn:0≤n∧n≤hi) (ha:(all:Int)=hi+1) (hb:all≤60):okT (tms l single n all) hi:=by
 unfold tms;by_cases c:l=[]
 ·rw[if_pos c]
  cases single with
  | true=>
   rw[if_pos rfl];refine⟨wD.2 ⟨fun y h=>absurd h (by simp),tF⟩,fun x hx=>?_,by simp⟩;have:=iA2.1 hx;omega
  | false=>
   rw[if_neg (by simp)];refine⟨nZ all,fun x hx=>?_,by rw[gW];exact hb⟩;have:=eF1.1 hx;omega
 ·rw[if_neg c];refine⟨yU1 hw,fun x hx=>?_,hw.2⟩;obtain⟨i,hi1,e⟩:=qW hx;have:=(hw.1 i hi1).1;unfold okI at this;omega
theorem zK1 (r:Rl) (s n:Int) (hr:zI r):∃k,zB.f r s n=some (k,()):=by
 obtain⟨b,hb⟩:=rQ r hr;have hV:=cE1 r hr;rw[hb]at hV;have hT:=(qN s).2;have hlast:∀x:Int,∃k,zB.l2 n x=some (k,()):=fun x=>⟨_,by rw[zB.l2_eq]⟩
 have hl1:∀(x:Int) (c:Bool),∃k,zB.l1 n x c=some (k,()):=fun x c=>by
  rw[zB.l1_eq]
  cases c with
  | true=>rw[cond_true];exact hlast _
  | false=>rw[cond_false];exact hlast _
 have hfin:∀(t:List Int×List Int×List Int×Unit),aF.f r s=some t → ∃k,zB.f r s n=some (k,()):=fun t ht=>by
  rw[zB.f_eq,ht,hZ1];by_cases c:(r.2.2.2.2.2.2.2.2.2.2.2.2.2.2.1.length:Int)>0
  ·rw[dp c,cond_true];exact hl1 _ _
  ·rw[dn c,cond_false];exact hl1 _ _
 have hright:qG.f r s=some (b&&decide (-62135596800≤s∧s≤253402300799),()):=by rw[qG.f_eq,←hV,hT];cases b <;> rfl
 by_cases c:b=true∧inT s
 ·obtain⟨rfl,ht⟩:=c;have hD:=(xF s (by unfold inT at ht;omega) (by unfold inT at ht;omega)).2;unfold zI fO at hr;obtain⟨_,_,_,_,_,h6,h7,h8,_⟩:=hr;have t1:∀sg n,rD.f r.2.2.2.2.2.2.2.2.2.2.2.1 sg n 24=some (tms r.2.2.2.2.2.2.2.2.2.2.2.1 sg n 24,()):=fun sg n=>(zL _ sg n 24 (by omega) (by omega)).2
  have t2:∀sg n,rD.f r.2.2.2.2.2.2.2.2.2.2.2.2.1 sg n 60=some (tms r.2.2.2.2.2.2.2.2.2.2.2.2.1 sg n 60,()):=fun sg n=>(zL _ sg n 60 (by omega) (by omega)).2
  have t3:∀sg n,rD.f r.2.2.2.2.2.2.2.2.2.2.2.2.2.1 sg n 60=some (tms r.2.2.2.2.2.2.2.2.2.2.2.2.2.1 sg n 60,()):=fun sg n=>(zL _ sg n 60 (by omega) (by omega)).2
  rw[dp ht]at hright;have hX:∃t,aF.f r s=some t:=by rw[aF.f_eq,hright];simp(disch:=omega)only[ss,hD,t1,t2,t3];exact⟨_,rfl⟩
  obtain⟨t,hX⟩:=hX;exact hfin t hX
 ·have e:(b&&decide (-62135596800≤s∧s≤253402300799))=false:=by
   cases b with
   | false=>rfl
   | true=>rw[dn (fun q=>c ⟨rfl,q⟩)];rfl
  rw[e]at hright;refine hfin ([],[],[],()) ?_;rw[aF.f_eq,hright];simp(disch:=omega)only[ss]
def yG1 (f w:Int) (we:List Int) (n k:Int):Prop:=
 (f=1∧we=[] ∧ ∃m d,uG n k m d)∨(f=1∧we≠[]∧0≤k ∧ ∃j,qV n w k j)∨(f=2 ∧ ∃y m d,uG n y m d∧k=12*y+m)∨(f=3∧k=(n+3-w)/7)∨(f=4∧k=n)
def pZ (f w:Int) (we:List Int) (t k:Int):Prop:=(f≤4∧yG1 f w we (t/86400) k)∨(f=5∧k=t/3600)∨(f=6∧k=t/60)∨(f=7∧k=t)
def off (f w:Int):Int:=if f=3 then(if w<3 then 2932895 else 2932896)else 0
theorem sV (t k:Int) (h:inT t) (hk:0<k) (hk2:k≤3600):qJ.f t k=some (t/k,())∧True:=by
 obtain⟨e1,e2⟩:=tdm t k hk;have b1:=Int.emod_nonneg t (show k≠0 by omega);have b2:=Int.emod_lt_of_pos t hk;have hq:=Int.emod_add_mul_ediv t k;unfold inT at h;have b3:t/k≤253402300799:=by have:=Int.ediv_le_ediv hk h.2;have:=Int.ediv_le_self k (show(0:Int)≤253402300799 by omega);omega
 have b4: -62135596801≤t/k:=by
  have h5:=Int.ediv_le_ediv hk h.1;have h6: -62135596801 ≤ -62135596800/k:=by refine Int.le_ediv_of_mul_le hk ?_;have:1*62135596801≤k*62135596801:=Int.mul_le_mul_of_nonneg_right (by omega) (by omega);omega
  omega
 constructor
 ·rw[qJ.f_eq];by_cases c:t<0
  ·have hd:(0-t+k-1)/k = -(t/k):=by
    by_cases hz:t%k=0
    ·have:0-t+k-1=(k-1)+k*(-(t/k)):=by rw[Int.mul_neg];omega
     rw[this,Int.add_mul_ediv_left _ _ (by omega),Int.ediv_eq_zero_of_lt (by omega) (by omega)];omega
    ·have:0-t+k-1=(k-t%k-1)+k*(-(t/k)):=by rw[Int.mul_neg];omega
     rw[this,Int.add_mul_ediv_left _ _ (by omega),Int.ediv_eq_zero_of_lt (by omega) (by omega)];omega
   have hk0:¬k=0:=by omega
   have e3:0 - -(t/k)=t/k:=by omega
   simp(disch:=omega)only[ss,tdn (show(0:Int)≤0-t+k-1 by omega),hd,e3]
  ·simp(disch:=omega)only[ss,tdn (show(0:Int)≤t by omega)]
 ·trivial
section
variable (f iv ct un wkst : Int) (en : Bool) (mo we yd md : List Int) (dy : List Dy) (ho mi se po : List Int)
theorem dP1 (t:Int) (ht:inT t) (hf:1≤f∧f≤7) (hw:0≤wkst∧wkst≤6) (hl:we.length≤100000):
  ∃k,pZ f wkst we t k∧(-300000000000≤k∧k≤300000000000)∧dG.f (f,iv,ct,un,wkst,en,mo,we,yd,md,dy,ho,mi,se,po,()) t=some (k+off f wkst,())∧True:=by
 have hb:=sK ht;obtain⟨y,m,d,hd,e,e'⟩:=mJ (t/86400) hb.1 hb.2;obtain⟨hD,hV⟩:=xF t (by unfold inT at ht;omega) (by unfold inT at ht;omega);obtain⟨q1,q2,q3,q4,_⟩:=vE hd;obtain⟨v1,v2,v3,v4⟩:=fC.1 hd.1;have hof:=nX (t/86400) y m d e;rw[dG.f_eq,hD];simp only[hZ1];rw[hof];simp only[hZ1];by_cases f1:f=1
 ·subst f1;have ho:off 1 wkst=0:=rfl;by_cases c:we=[]
  ·subst c;have hnil:(([]:List Int).length:Int)=0:=rfl;refine⟨y,.inl ⟨by omega,.inl ⟨rfl,rfl,m,d,hd⟩⟩,by omega,?_,?_⟩
   ·rw[ho,Int.add_zero];simp(disch:=omega)only[ss,yH.f_eq,hnil]
   ·trivial
  ·have hp:=mH.1 c;obtain⟨Y,K,h1,h2,h3,h4,h5,h6,h7⟩:=aR (t/86400) wkst hb.1 hb.2 hw.1 hw.2;refine⟨Y,.inl ⟨by omega,.inr (.inl ⟨rfl,c,h2,K,h1⟩)⟩,by omega,?_,?_⟩
   ·rw[ho,Int.add_zero];simp(disch:=omega)only[ss,yH.f_eq,h6]
   ·trivial
 ·by_cases f2:f=2
  ·subst f2;have ho:off 2 wkst=0:=rfl;refine⟨12*y+m,.inl ⟨by omega,.inr (.inr (.inl ⟨rfl,y,m,d,hd,rfl⟩))⟩,by omega,?_,?_⟩
   ·rw[ho,Int.add_zero];simp(disch:=omega)only[ss]
   ·trivial
  ·by_cases f3:f=3
   ·subst f3;have hk:=zL1 (t/86400);have hm:Int.tmod (wk (t/86400)-wkst+7) 7=(t/86400+3-wkst)%7:=by rw[tmn (by omega)];unfold wk;omega
    have hb7:Int.tdiv (t/86400-(t/86400+3-wkst)%7+20530272) 7=(t/86400+3-wkst)/7+off 3 wkst:=by rw[tdn (by omega)];unfold off;rw[if_pos rfl];split <;> omega
    have ho:off 3 wkst=2932895∨off 3 wkst=2932896:=by unfold off;rw[if_pos rfl];split <;> simp
    refine⟨(t/86400+3-wkst)/7,.inl ⟨by omega,.inr (.inr (.inr (.inl ⟨rfl,rfl⟩)))⟩,by omega,?_,?_⟩
    ·rw[sL.f_eq,iG];simp(disch:=omega)only[ss,hm,hb7]
    ·trivial
   ·have ho:off f wkst=0:=by unfold off;rw[if_neg f3]
    rw[ho];by_cases f4:f=4
    ·subst f4;refine⟨t/86400,.inl ⟨by omega,.inr (.inr (.inr (.inr ⟨rfl,rfl⟩)))⟩,by omega,?_,?_⟩
     ·rw[Int.add_zero];simp(disch:=omega)only[ss]
     ·trivial
    ·by_cases f5:f=5
     ·subst f5;obtain⟨g1,g2⟩:=sV t 3600 ht (by omega) (by omega);refine⟨t/3600,.inr (.inl ⟨rfl,rfl⟩),by unfold inT at ht;omega,?_,?_⟩
      ·rw[Int.add_zero];simp(disch:=omega)only[ss,g1]
      ·trivial
     ·by_cases f6:f=6
      ·subst f6;obtain⟨g1,g2⟩:=sV t 60 ht (by omega) (by omega);refine⟨t/60,.inr (.inr (.inl ⟨rfl,rfl⟩)),by unfold inT at ht;omega,?_,?_⟩
       ·rw[Int.add_zero];simp(disch:=omega)only[ss,g1]
       ·trivial
      ·have f7:f=7:=by omega
       subst f7;refine⟨t,.inr (.inr (.inr ⟨rfl,rfl⟩)),by unfold inT at ht;omega,?_,?_⟩
       ·rw[Int.add_zero];simp(disch:=omega)only[ss]
       ·trivial
end
theorem vM {n y y':Int} (h0:1≤y) (h1:1≤y') (a1:fst_ y≤n) (a2:n<fst_ (y+1)) (b1:fst_ y'≤n) (b2:n<fst_ (y'+1)):y=y':=by
 rcases Int.lt_trichotomy y y' with c | c | c
 ·have:=pC (a:=y+1) (b:=y') (by omega) (by omega);omega
 ·exact c
 ·have:=pC (a:=y'+1) (b:=y) (by omega) (by omega);omega
theorem gY {f w:Int} {we:List Int} {n n' k k':Int} (h:yG1 f w we n k) (g:yG1 f w we n' k') (hn:n≤n'):k≤k':=by
 rcases h with⟨f1,e1,m,d,h⟩ | ⟨f1,e1,h0,j,h⟩ | ⟨f1,y,m,d,h,rfl⟩ | ⟨f1,rfl⟩ | ⟨f1,rfl⟩ <;>
  rcases g with⟨f2,e2,m',d',g⟩ | ⟨f2,e2,g0,j',g⟩ | ⟨f2,y',m',d',g,rfl⟩ | ⟨f2,rfl⟩ | ⟨f2,rfl⟩ <;> first | omega | (exact absurd e1 e2) | (exact absurd e2 e1) | skip
 ·obtain⟨a1,a2,_⟩:=vE h;obtain⟨b1,b2,_⟩:=vE g;obtain⟨v1,_⟩:=fC.1 h.1;obtain⟨v2,_⟩:=fC.1 g.1;refine Int.not_lt.1 fun c=>?_
  have:=pC (a:=k'+1) (b:=k) (by omega) (by omega);omega
 ·refine Int.not_lt.1 fun c=>?_
  have:=hD1 (a:=k'+1) (b:=k) (w:=w) (by omega) (by omega);obtain⟨a1,a2,_⟩:=h;obtain⟨b1,b2,_⟩:=g;omega
 ·obtain⟨a1,a2,a3,a4,_⟩:=vE h;obtain⟨b1,b2,b3,b4,_⟩:=vE g;obtain⟨v1,v1',v1'',v1d⟩:=fC.1 h.1;obtain⟨v2,v2',v2'',v2d⟩:=fC.1 g.1;have h2:=h.2;have g2:=g.2;rcases Int.lt_trichotomy y y' with c | c | c
  ·omega
  ·subst c;refine Int.not_lt.1 fun c=>?_
   have cs:=sD y m' b3 b4;have:=pH y (a:=m'+1) (b:=m) (by omega) (by omega) (by omega);omega
  ·have:=pC (a:=y'+1) (b:=y) (by omega) (by omega);omega
theorem wW {f w:Int} {we:List Int} {t t' k k':Int} (h:pZ f w we t k) (g:pZ f w we t' k') (ht:t≤t'):k≤k':=by
 rcases h with⟨a,h⟩ | ⟨a,rfl⟩ | ⟨a,rfl⟩ | ⟨a,rfl⟩ <;> rcases g with⟨b,g⟩ | ⟨b,rfl⟩ | ⟨b,rfl⟩ | ⟨b,rfl⟩ <;> first | omega | skip
 exact gY h g (by omega)
def isIv (f w:Int) (we:List Int) (n A B:Int):Prop:=
 (f=1∧we=[] ∧ ∃y,1≤y∧y≤9999∧fst_ y≤n∧n<fst_ (y+1)∧A=fst_ y∧B=fst_ (y+1)-1) ∨
 (f=1∧we≠[] ∧ ∃Y,0≤Y∧Y≤10000∧w1 Y w≤n∧n<w1 (Y+1) w∧A=(if w1 Y w < -719162 then -719162 else w1 Y w)∧B=(if w1 (Y+1) w-1>2932896 then 2932896 else w1 (Y+1) w-1)) ∨
 (f=2 ∧ ∃y m,1≤y∧y≤9999∧1≤m∧m≤12∧fst_ y+cum y m≤n∧n<fst_ y+cum y (m+1)∧A=fst_ y+cum y m∧B=fst_ y+cum y (m+1)-1) ∨
 (f=3∧A=(if n-(n+3-w)%7 < -719162 then -719162 else n-(n+3-w)%7)∧B=(if n-(n+3-w)%7+6>2932896 then 2932896 else n-(n+3-w)%7+6)) ∨
 (f=4∧A=n∧B=n)
theorem nV1 {f w:Int} {we:List Int} {n A B:Int} (h:isIv f w we n A B) (hn: -719162≤n∧n≤2932896):A≤n∧n≤B ∧ -719162≤A∧B≤2932896:=by
 rcases h with⟨_,_,y,h1,h2,h3,h4,rfl,rfl⟩ | ⟨_,_,Y,h1,h2,h3,h4,rfl,rfl⟩ | ⟨_,y,m,h1,h2,h3,h4,h5,h6,rfl,rfl⟩ | ⟨_,rfl,rfl⟩ | ⟨_,rfl,rfl⟩
 ·have a:=pC (a:=1) (b:=y) (by omega) h1;have b:=pC (a:=y+1) (b:=10000) (by omega) (by omega);rw[bH1]at a;rw[oI]at b;omega
 ·split <;> split <;> omega
 ·have a:=pC (a:=1) (b:=y) (by omega) h1;have b:=pC (a:=y+1) (b:=10000) (by omega) (by omega);have c:=bG y h1;have d:=pH y (a:=m+1) (b:=13) (by omega) (by omega) (by omega);have e:=mK y m;rw[bH1]at a;rw[oI]at b;omega
 ·split <;> split <;> omega
 ·omega
theorem gN1 {f w:Int} {we:List Int} {n k A B x k':Int} (h:isIv f w we n A B) (hn:yG1 f w we n k) (hx:yG1 f w we x k') (hr: -719162≤x∧x≤2932896):
  (A≤x∧x≤B→k'=k)∧(x=A-1→k'=k-1)∧(x=B+1→k'=k+1):=by
 rcases h with⟨f1,e1,y,h1,h2,h3,h4,rfl,rfl⟩ | ⟨f1,e1,Y,h1,h2,h3,h4,hA,hB⟩ | ⟨f1,y,m,h1,h2,h3,h4,h5,h6,rfl,rfl⟩ | ⟨f1,hA,hB⟩ | ⟨f1,rfl,rfl⟩ <;>
  rcases hn with⟨f2,e2,m1,d1,g⟩ | ⟨f2,e2,g0,j1,g⟩ | ⟨f2,y1,m1,d1,g,rfl⟩ | ⟨f2,rfl⟩ | ⟨f2,rfl⟩ <;> first | omega | (exact absurd e1 e2) | (exact absurd e2 e1) | skip <;>
  rcases hx with⟨f3,e3,m2,d2,q⟩ | ⟨f3,e3,q0,j2,q⟩ | ⟨f3,y2,m2,d2,q,rfl⟩ | ⟨f3,rfl⟩ | ⟨f3,rfl⟩ <;> first | omega | (exact absurd e1 e3) | (exact absurd e3 e1) | skip
 ·-- years
  obtain⟨a1,a2,_⟩:=vE g;obtain⟨b1,b2,_⟩:=vE q;obtain⟨v1,v1',_⟩:=fC.1 g.1;obtain⟨v2,v2',_⟩:=fC.1 q.1;have ek:k=y:=vM v1 h1 a1 a2 h3 h4;subst ek;refine⟨fun r=>vM v2 v1 b1 b2 r.1 (by omega),fun r=>?_,fun r=>?_⟩
  ·have s:=lJ (k-1) (by omega);rw[show k-1+1=k by omega]at s;rcases Int.lt_or_le 1 k with c | c
   ·exact vM v2 (by omega) b1 b2 (by omega) (by rw[show k-1+1=k by omega];omega)
   ·have:k=1:=by omega
    subst this;have:=bH1;omega
  ·have s:=lJ (k+1) (by omega);exact vM v2 (by omega) b1 b2 (by omega) (by omega)
 ·-- years by weeks
  obtain⟨a1,a2,_⟩:=g;obtain⟨b1,b2,_⟩:=q;have ek:k=Y:=(rN (n:=n) (w:=w) (k:=(n-w1 k w)/7+1) (k':=(n-w1 Y w)/7+1) g0 h1 ⟨a1,a2,rfl⟩ ⟨h3,h4,rfl⟩).1;subst ek;have uq:∀z,0≤z→w1 z w≤x→x<w1 (z+1) w→k'=z:=fun z z0 z1 z2=>(rN (n:=x) (w:=w) (k:=(x-w1 k' w)/7+1) (k':=(x-w1 z w)/7+1) q0 z0 ⟨b1,b2,rfl⟩ ⟨z1,z2,rfl⟩).1
  have n0:=iI k w;have n1:=iI (k+1) w;refine⟨fun r=>uq k g0 ?_ ?_,fun r=>?_,fun r=>?_⟩
  ·rw[hA]at r;split at r <;> omega
  ·rw[hB]at r;obtain⟨_,r⟩:=r;split at r <;> omega
  ·rw[hA]at r;split at r
   ·omega
   ·rcases Int.lt_or_le 0 k with c | c
    ·have s:=aL (k-1) w (by omega);rw[show k-1+1=k by omega]at s;exact uq (k-1) (by omega) (by omega) (by rw[show k-1+1=k by omega];omega)
    ·have:k=0:=by omega
     subst this;have f0:fst_ 0 = -719528:=by decide
     omega
  ·rw[hB]at r;split at r
   ·omega
   ·have s:=aL (k+1) w (by omega);exact uq (k+1) (by omega) (by omega) (by omega)
 ·-- months
  obtain⟨a1,a2,a3,a4,_⟩:=vE g;obtain⟨b1,b2,b3,b4,_⟩:=vE q;obtain⟨v1,v1',v1a,v1b⟩:=fC.1 g.1;obtain⟨v2,v2',v2a,v2b⟩:=fC.1 q.1;have c1:=sD y1 m1 a3 a4;have c2:=sD y2 m2 b3 b4;have g2:=g.2;have q2:=q.2
  have uq:∀(z u n' m' d' y':Int),uG n' y' m' d'→1≤z→z≤9999→1≤u→u≤12→fst_ z+cum z u≤n'→n'<fst_ z+cum z (u+1)→y'=z∧m'=u:=fun z u n' m' d' y' hd z1 z2 u1 u2 r1 r2=>by
   have hb:=sD z u u1 u2;have hu:uG n' z u (n'-fst_ z-cum z u+1):=⟨fC.2 ⟨z1,z2,by omega,by omega⟩,by omega⟩
   obtain⟨e1,e2,_⟩:=yS hd hu;exact⟨e1,e2⟩
  obtain⟨ey,em⟩:=uq y m n m1 d1 y1 g h1 h2 h3 h4 h5 h6;subst ey em;refine⟨fun r=>?_,fun r=>?_,fun r=>?_⟩
  ·obtain⟨e3,e4⟩:=uq y1 m1 x m2 d2 y2 q h1 h2 h3 h4 r.1 (by omega);rw[e3,e4]
  ·by_cases cm:m1=1
   ·subst cm;have c0:=oA1 y1;have s:=lJ (y1-1) (by omega);rw[show y1-1+1=y1 by omega]at s;rcases Int.lt_or_le 1 y1 with cy | cy
    ·have s':=bG (y1-1) (by omega);rw[show y1-1+1=y1 by omega]at s';have h13:=sD (y1-1) 12 (by omega) (by omega);have hl:=eJ (y1-1) 12;have hl2:mlen (y1-1) 12=31:=by unfold mlen;simp
     obtain⟨e3,e4⟩:=uq (y1-1) 12 x m2 d2 y2 q (by omega) (by omega) (by omega) (by omega) (by rw[show(12:Int)+1=13 from rfl]at h13;omega) (by rw[show(12:Int)+1=13 from rfl];omega);rw[e3,e4];omega
    ·have:y1=1:=by omega
     subst this;have:=bH1;omega
   ·have hs:=sD y1 (m1-1) (by omega) (by omega);rw[show m1-1+1=m1 by omega]at hs;have hl:28≤mlen y1 (m1-1):=by
     unfold mlen;split
     ·split <;> omega
     ·split
      ·omega
      ·rw[if_pos ⟨by omega,by omega⟩];omega
    obtain⟨e3,e4⟩:=uq y1 (m1-1) x m2 d2 y2 q (by omega) (by omega) (by omega) (by omega) (by omega) (by rw[show m1-1+1=m1 by omega];omega);rw[e3,e4];omega
  ·by_cases cm:m1=12
   ·subst cm;have s':=bG y1 (by omega);have c0:=oA1 (y1+1);have c3:=sD (y1+1) 1 (by omega) (by omega);have hl2:mlen (y1+1) 1=31:=by unfold mlen;simp
    rw[show(12:Int)+1=13 from rfl]at r;have b9:=pC (a:=y1+1) (b:=10000) (by omega) (by omega);rw[oI]at b9;rcases Int.lt_or_le y1 9999 with cy | cy
    ·obtain⟨e3,e4⟩:=uq (y1+1) 1 x m2 d2 y2 q (by omega) (by omega) (by omega) (by omega) (by omega) (by omega);rw[e3,e4];omega
    ·have:y1=9999:=by omega
     subst this;have:fst_ (9999+1)=2932897:=oI;omega
   ·have hs:=sD y1 (m1+1) (by omega) (by omega);have hl:28≤mlen y1 (m1+1):=by
     unfold mlen;split
     ·split <;> omega
     ·split
      ·omega
      ·rw[if_pos ⟨by omega,by omega⟩];omega
    obtain⟨e3,e4⟩:=uq y1 (m1+1) x m2 d2 y2 q (by omega) (by omega) (by omega) (by omega) (by omega) (by omega);rw[e3,e4];omega
theorem jan1 (y:Int) (h1:1≤y) (h2:y≤9999):gG.f y 1 1=some (fst_ y,0,()):=by
 have hv:oK y 1 1=true:=fC.2 ⟨h1,h2,by omega,by unfold mlen;simp⟩;have:=oA1 y;have e:fst_ y+1-1+cum y 1=fst_ y:=by omega
 rw[rA1,if_pos hv,e]
theorem qG1 (y w:Int) (h1:0≤y) (h2:y≤10001) (hw:0≤w∧w≤6):zC.l1 w (fst_ y)=some (w1 y w,()):=by
 have hb:=cJ y h1 h2;have hk:=zL1 (fst_ y);rw[zC.l1_eq,iG];simp(disch:=omega)only[ss,tmn (show(0:Int)≤wk (fst_ y)-w+7 by omega)];unfold w1;by_cases c:(wk (fst_ y)-w+7)%7≤3
 ·simp(disch:=omega)only[ss]
  congr 2
  unfold wk at *;omega
 ·simp(disch:=omega)only[ss]
  congr 2
  unfold wk at *;omega
theorem eP (y w:Int) (h1:0≤y) (h2:y≤10001) (hw:0≤w∧w≤6):zC.f y w=some (if y<1 then -719169 else if y>10000 then 2932903 else w1 y w,()):=by
 rw[zC.f_eq];by_cases c1:y<1
 ·rw[if_pos c1];simp(disch:=omega)only[ss]
 ·rw[if_neg c1];by_cases c2:y>10000
  ·rw[if_pos c2];simp(disch:=omega)only[ss]
  ·rw[if_neg c2];have hl:=qG1 y w h1 h2 hw;by_cases c3:y≤9999
   ·simp(disch:=omega)only[ss,jan1 y (by omega) c3,hl]
   ·have:y=10000:=by omega
    subst this;rw[oI]at hl;simp(disch:=omega)only[ss,hl]
theorem bF1 (a b:Int):rL.f a b=some (if a < -719162 then -719162 else a,if b>2932896 then 2932896 else b,()):=by rw[rL.f_eq];simp only[mm,cond_true,cond_false,gt_iff_lt]
section
variable (f iv ct un wkst : Int) (en : Bool) (mo we yd md : List Int) (dy : List Dy) (ho mi se po : List Int)
theorem yL1 (s sec n0 y0 m0 d0 w0 t:Int) (ht:inT t) (hf:1≤f∧f≤7) (hw:0≤wkst∧wkst≤6) (hl:we.length≤100000):
  ∃A B,(f≤4→isIv f wkst we (t/86400) A B)∧(4<f→A=t/86400∧B=t/86400)∧xC.f ((f,iv,ct,un,wkst,en,mo,we,yd,md,dy,ho,mi,se,po,()),s,(n0,y0,m0,d0,w0,()),sec,()) t=some (A,B,()):=by
 have hb:=sK ht;obtain⟨y,m,d,hd,e,e'⟩:=mJ (t/86400) hb.1 hb.2;obtain⟨hD,_⟩:=xF t (by unfold inT at ht;omega) (by unfold inT at ht;omega);obtain⟨q1,q2,q3,q4,_⟩:=vE hd;obtain⟨v1,v2,v3,v4⟩:=fC.1 hd.1;have hof:=nX (t/86400) y m d e;have heq:=hd.2;rw[xC.f_eq,hD];simp only[hZ1];rw[hof];simp only[hZ1];by_cases f1:f=1
 ·subst f1;by_cases c:we=[]
  ·subst c;have hnil:(([]:List Int).length:Int)=0:=rfl;have hs:=bG y v1;have h13:=fH1 y;have hfb:=cJ y (by omega) (by omega);have e3:fst_ y+cum y 13-1=fst_ (y+1)-1:=by omega
   refine⟨fst_ y,fst_ (y+1)-1,fun _=>.inl ⟨rfl,rfl,y,v1,v2,q1,q2,rfl,rfl⟩,fun q=>by omega,?_⟩;simp(disch:=omega)only[ss,rG.f_eq,hnil,jan1 y v1 v2,nS y (by omega),e3]
  ·have hp:=mH.1 c;obtain⟨Y,K,h1,h2,h3,h4,h5,h6,_⟩:=aR (t/86400) wkst hb.1 hb.2 hw.1 hw.2;obtain⟨a1,a2,_⟩:=h1;have o1:=eP Y wkst h2 (by omega) hw;have o2:=eP (Y+1) wkst (by omega) (by omega) hw;have n0':=iI Y wkst;have n1':=iI (Y+1) wkst;have b0:=cJ Y h2 (by omega);have b1:=cJ (Y+1) (by omega) (by omega);have f0:fst_ 0 = -719528:=by decide
   have f10:fst_ 10001=2933263:=by decide
   refine⟨_,_,fun _=>.inr (.inl ⟨rfl,c,Y,h2,h3,a1,a2,rfl,rfl⟩),fun q=>by omega,?_⟩
   have fin:∀v1 v2:Int,v1=(if Y<1 then -719169 else if Y>10000 then 2932903 else w1 Y wkst)→v2=(if Y+1<1 then -719169 else if Y+1>10000 then 2932903 else w1 (Y+1) wkst) →
     (if v1 < -719162 then -719162 else v1)=(if w1 Y wkst < -719162 then -719162 else w1 Y wkst)∧(if v2-1>2932896 then 2932896 else v2-1)=(if w1 (Y+1) wkst-1>2932896 then 2932896 else w1 (Y+1) wkst-1)∧(-10000000≤v2∧v2≤10000000):=fun v1 v2 e1 e2=>by
    have hv1:(v1 = -719169∧Y=0)∨v1=w1 Y wkst:=by
     by_cases cY:Y<1
     ·rw[if_pos cY]at e1;exact .inl ⟨e1,by omega⟩
     ·rw[if_neg cY,if_neg (by omega)]at e1;exact .inr e1
    have hv2:(v2=2932903∧Y=10000)∨v2=w1 (Y+1) wkst:=by
     rw[if_neg (by omega)]at e2;by_cases cY:Y+1>10000
     ·rw[if_pos cY]at e2;exact .inl ⟨e2,by omega⟩
     ·rw[if_neg cY]at e2;exact .inr e2
    refine⟨?_,?_,?_⟩
    ·rcases hv1 with⟨e3,e4⟩ | e3
     ·subst e4;rw[e3];split <;> split <;> omega
     ·rw[e3]
    ·rcases hv2 with⟨e3,e4⟩ | e3
     ·subst e4;have n2:fst_ (10000+1)=2933263:=f10;rw[e3];split <;> split <;> omega
     ·rw[e3]
    ·rcases hv2 with⟨e3,_⟩ | e3 <;> rw[e3] <;> omega
   obtain⟨g1,g2,g3⟩:=fin _ _ rfl rfl;rw[←g1,←g2];simp(disch:=omega)only[ss,rG.f_eq,yH.f_eq,h6,o1,o2,bF1]
 ·by_cases f2:f=2
  ·subst f2;have hc:=sD y m q3 q4;have hml:=eJ y m;have e1:t/86400-d+1=fst_ y+cum y m:=by omega
   have e2:t/86400-d+mlen y m=fst_ y+cum y (m+1)-1:=by omega
   refine⟨fst_ y+cum y m,fst_ y+cum y (m+1)-1,fun _=>.inr (.inr (.inl ⟨rfl,y,m,v1,v2,q3,q4,by omega,by omega,rfl,rfl⟩)),fun q=>by omega,?_⟩;simp(disch:=omega)only[ss,cG y m (by omega),e1,e2]
  ·by_cases f3:f=3
   ·subst f3;have hk:=zL1 (t/86400);have hm:Int.tmod (wk (t/86400)-wkst+7) 7=(t/86400+3-wkst)%7:=by rw[tmn (by omega)];unfold wk;omega
    have e6:t/86400-(t/86400+3-wkst)%7+7-1=t/86400-(t/86400+3-wkst)%7+6:=by omega
    refine⟨_,_,fun _=>.inr (.inr (.inr (.inl ⟨rfl,rfl,rfl⟩))),fun q=>by omega,?_⟩;simp(disch:=omega)only[ss,hm,e6,bF1]
   ·refine⟨t/86400,t/86400,fun q=>.inr (.inr (.inr (.inr ⟨by omega,rfl,rfl⟩))),fun _=>⟨rfl,rfl⟩,?_⟩;simp(disch:=omega)only[ss]
end
end Go.GV.YtidgapgbnlcjgaaGreatDoor
