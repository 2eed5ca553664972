/-
Part of the words that ExpandLists is proved with: no statement of its own, no conditions.
-/
import Derived.Test.YtegmfagkklekaaaGreatDoorFExpandListso
set_option linter.unusedVariables false
set_option linter.unusedSimpArgs false
namespace Go.GV
theorem wr {x:Int} (h1: -9223372036854775808≤x) (h2:x≤9223372036854775807):w6 x=x:=Go.IntWalk.i64_in x ⟨h1,h2⟩
theorem gS1 {n:Nat} (h:n<9223372036854775807):w6 ((n:Int)+1)=((n+1:Nat):Int):=by rw[wr (by omega) (by omega)];omega
theorem dp {p:Prop} [Decidable p] (h:p):decide p=true:=decide_eq_true h
theorem dn {p:Prop} [Decidable p] (h:¬p):decide p=false:=decide_eq_false h
theorem oT1 (n m:Nat):((n:Int)+(m:Int)).toNat=n+m:=by omega
theorem cR1 (n:Nat):((n:Int)+1).toNat=n+1:=by omega
theorem tQ1 (n:Nat):((n:Int)-1).toNat=n-1:=by omega
theorem tn_0 :(0:Int).toNat=0:=rfl
theorem tn_1 :(1:Int).toNat=1:=rfl
theorem ss :(∀(p:Prop) [Decidable p],p→decide p=true)∧(∀(p:Prop) [Decidable p],¬p→decide p=false)∧(∀(h:Decidable True),@decide True h=true)∧(∀(h:Decidable False),@decide False h=false) ∧
  ((!true)=false)∧((!false)=true)∧(∀b,(true&&b)=b)∧(∀b,(false&&b)=false)∧(∀b,(b&&true)=b)∧(∀b,(b&&false)=false) ∧
  (∀b,(true||b)=true)∧(∀b,(false||b)=b)∧(∀b,(b||true)=true)∧(∀b,(b||false)=b)∧(∀(x:Int),-9223372036854775808≤x→x≤9223372036854775807→w6 x=x) ∧
  (∀n m:Nat,((n:Int)+(m:Int)).toNat=n+m)∧(∀n:Nat,((n:Int)+1).toNat=n+1)∧(∀n:Nat,((n:Int)-1).toNat=n-1)∧((0:Int).toNat=0)∧((1:Int).toNat=1)∧(∀n:Nat,(n:Int).toNat=n) ∧
  (∀(α:Type) (a b:α),(bif true then a else b)=a)∧(∀(α:Type) (a b:α),(bif false then a else b)=b)∧(∀(α β:Type) (a:α) (f:α→Option β),(some a).bind f=f a):=
 ⟨fun _=>dp,fun _=>dn,fun _=>decide_true _,fun _=>decide_false _,rfl,rfl,Bool.true_and,Bool.false_and,hY1,Bool.and_false,Bool.true_or,Bool.false_or,Bool.or_true,Bool.or_false,fun _=>wr,oT1,cR1,tQ1,tn_0,tn_1,fun _=>rfl,fun _ _ _=>rfl,fun _ _ _=>rfl,fun _ _ _ _=>rfl⟩
abbrev B (s:ByteArray):List UInt8:=s.data.toList
def I (l:List UInt8):List Int:=l.map fun b=>(b.toNat:Int)
theorem okI {a:List Int} (h:∀x∈a,sQ1 .u8 x):a=I (a.map fun n=>UInt8.ofNat n.toNat):=by simp only[I,List.map_map];refine(List.map_id a).symm.trans (zX1 fun x hx=>?_);have h1:=h x hx;simp only[sQ1]at h1;have h2:(0:Int)≤x∧x≤255:=h1;simp only[Function.comp,id,UInt8.toNat_ofNat'];omega
theorem qH1 {α:Type} (l:List α) (i:Nat) (d:α) (h:i<l.length):l.drop i=l.getD i d::l.drop (i+1):=by rw[mV1,rV1 h,oX1];exact List.drop_eq_getElem_cons h
theorem tF {α:Type} (o:List α) (p:α):(o++[p]).length=o.length+1:=by simp
theorem aI1 {n:Nat} (h0:0<n) (h:n<4611686018427387904):w6 ((n:Int)-1)=((n-1:Nat):Int):=by rw[wr (by omega) (by omega)];omega
theorem uI1 {n:Nat} (h:n<4611686018427387904):w6 ((n:Int)+1)=((n+1:Nat):Int):=gS1 (by omega)
theorem wB1 {α:Type} {l:List α} {i:Nat} (z:α) (h:i<l.length):l.getD i z=l[i]:=by simp[mV1,h]
theorem tB {α:Type} {l:List α} {i:Nat} (z:α) (h:i<l.length):l.drop i=l.getD i z::l.drop (i+1):=qH1 l i z h
theorem kZ (a b:Int):mm true a b=max a b:=by unfold mm;simp only[cond_true];split <;> omega
theorem xT (a b:Int):mm false a b=min a b:=by unfold mm;simp only[cond_false];split <;> omega
end Go.GV
namespace Go.GV.YtegmfagkklekaaaGreatDoor
open Go.Proofs
def rI (y:Int):Bool:=decide (y%4=0)&&(!decide (y%100=0)||decide (y%400=0))
def mlen (y m:Int):Int:=if m=2 then(if rI y=true then 29 else 28)else if m=4∨m=6∨m=9∨m=11 then 30 else if 1≤m∧m≤12 then 31 else 0
def cumT (m:Int):Int:=if m≤1 then 0 else if m=2 then 31 else if m=3 then 59 else if m=4 then 90 else if m=5 then 120 else if m=6 then 151 else if m=7 then 181 else if m=8 then 212 else if m=9 then 243 else if m=10 then 273 else if m=11 then 304 else if m=12 then 334 else 365
def cum (y m:Int):Int:=cumT m+if 3≤m∧rI y=true then 1 else 0
def fst_ (y:Int):Int:=365*(y-1)+(y-1)/4-(y-1)/100+(y-1)/400-719162
theorem tmn {n:Int} (h:0≤n) (k:Int):Int.tmod n k=n%k:=Int.tmod_eq_emod_of_nonneg h
theorem tdn {n:Int} (h:0≤n) (k:Int):Int.tdiv n k=n/k:=Int.tdiv_eq_ediv_of_nonneg h
theorem fS (y:Int) (hy:0≤y):pH.f y=some (rI y,()):=by
 rw[pH.f_eq];simp only[tmn hy];unfold rI;by_cases h1:y%4=0
 ·by_cases h2:y%100=0
  ·by_cases h3:y%400=0
   ·simp(disch:=omega)only[ss]
   ·simp(disch:=omega)only[ss]
  ·simp(disch:=omega)only[ss]
 ·simp(disch:=omega)only[ss]
theorem zO (y:Int) (hy:0≤y):qE.f y=some (rI y,()):=by have:=fS y hy;rw[pH.f_eq]at this;rw[qE.f_eq];exact this
theorem gH (y m:Int) (hy:0≤y):gB.f y m=some (mlen y m,()):=by
 have hL:=fS y hy;rw[gB.f_eq];unfold mlen;by_cases h2:m=2
 ·subst h2;simp(disch:=omega)only[ss,gB.l1_eq,hL];cases rI y <;> rfl
 ·rw[if_neg h2];by_cases h4:m=4∨m=6∨m=9∨m=11
  ·rw[if_pos h4];rcases h4 with rfl | rfl | rfl | rfl
   all_goals (simp(disch:=omega)only[ss,gB.l1_eq])
  ·rw[if_neg h4];by_cases hr:1≤m∧m≤12
   ·rw[if_pos hr];have:m=1∨m=3∨m=5∨m=7∨m=8∨m=10∨m=12:=by omega
    rcases this with rfl | rfl | rfl | rfl | rfl | rfl | rfl
    all_goals (simp(disch:=omega)only[ss,gB.l1_eq,gB.l2_eq])
   ·rw[if_neg hr];simp(disch:=omega)only[ss,gB.l1_eq,gB.l2_eq]
theorem aJ (y m:Int) (hy:0≤y):oA.f y m=some (mlen y m,()):=by
 have hL:=zO y hy;rw[oA.f_eq];unfold mlen;by_cases h2:m=2
 ·subst h2;simp(disch:=omega)only[ss,oA.l1_eq,oA.l2_eq,hL];cases rI y <;> rfl
 ·rw[if_neg h2];by_cases h4:m=4∨m=6∨m=9∨m=11
  ·rw[if_pos h4];rcases h4 with rfl | rfl | rfl | rfl
   all_goals (simp(disch:=omega)only[ss,oA.l1_eq,oA.l2_eq])
  ·rw[if_neg h4];by_cases hr:1≤m∧m≤12
   ·rw[if_pos hr];have:m=1∨m=3∨m=5∨m=7∨m=8∨m=10∨m=12:=by omega
    rcases this with rfl | rfl | rfl | rfl | rfl | rfl | rfl
    all_goals (simp(disch:=omega)only[ss,oA.l1_eq])
   ·rw[if_neg hr];simp(disch:=omega)only[ss,oA.l1_eq,oA.l2_eq]
theorem gK (y m:Int):0≤mlen y m∧mlen y m≤31∧(0<mlen y m→1≤m∧m≤12):=by
 unfold mlen;split
 ·cases rI y <;> (simp;omega)
 ·split
  ·omega
  ·split <;> omega
theorem zE (y m:Int) (h1:1≤m) (h2:m≤12):cum y (m+1)=cum y m+mlen y m:=by
 have:m=1∨m=2∨m=3∨m=4∨m=5∨m=6∨m=7∨m=8∨m=9∨m=10∨m=11∨m=12:=by omega
 unfold cum mlen cumT;cases rI y <;> (rcases this with rfl | rfl | rfl | rfl | rfl | rfl | rfl | rfl | rfl | rfl | rfl | rfl <;> simp)
theorem zM (y m:Int):0≤cum y m∧cum y m≤366:=by unfold cum cumT;split <;> (try split) <;> (repeat' split) <;> omega
def lN (y m d:Int):Bool:=decide (1≤y)&&decide (y≤9999)&&decide (1≤d)&&decide (d≤mlen y m)
theorem uF1 (y m d:Int):pI.f y m d=some (lN y m d,()):=by
 rw[pI.f_eq,eH.f_eq];unfold lN;by_cases h1:1≤y
 ·have hL:=gH y m (by omega);by_cases h2:y≤9999
  ·by_cases h3:1≤d
   ·simp(disch:=omega)only[ss,hL,ge_iff_le]
   ·simp(disch:=omega)only[ss,hL,ge_iff_le]
  ·simp(disch:=omega)only[ss,ge_iff_le]
 ·simp(disch:=omega)only[ss,ge_iff_le]
theorem bP (y m d:Int) (hy:1≤y) (hy2:y≤10000) (hm:1≤m) (hm2:m≤12) (hd:1≤d) (hd2:d≤31):zC.f y m d=some (fst_ y+d-1+cum y m,()):=by
 rw[zC.f_eq];by_cases h3:m<3
 ·simp(disch:=omega)only[ss,tdn (show 0≤y-1+400 by omega),tdn (show 0≤153*(m+12-3)+2 by omega)]
  congr 2
  unfold fst_ cum cumT;have:m=1∨m=2:=by omega
  rcases this with rfl | rfl
  ·simp;omega
  ·simp;omega
 ·simp(disch:=omega)only[ss,tdn (show 0≤y+400 by omega),tdn (show 0≤153*(m-3)+2 by omega)]
  congr 2
  unfold fst_ cum cumT
  have e:(if 3≤m∧rI y=true then(1:Int)else 0)=y/4-(y-1)/4-(y/100-(y-1)/100)+(y/400-(y-1)/400):=by
   unfold rI;by_cases h1:y%4=0
   ·by_cases h2:y%100=0
    ·by_cases h5:y%400=0
     ·rw[if_pos ⟨by omega,by simp[h1,h2,h5]⟩];omega
     ·rw[if_neg (by simp[h1,h2,h5])];omega
    ·rw[if_pos ⟨by omega,by simp[h1,h2]⟩];omega
   ·rw[if_neg (by simp[h1])];omega
  rw[e];have:m=3∨m=4∨m=5∨m=6∨m=7∨m=8∨m=9∨m=10∨m=11∨m=12:=by omega
  rcases this with rfl | rfl | rfl | rfl | rfl | rfl | rfl | rfl | rfl | rfl
  all_goals (simp;omega)
theorem qS (n k:Int) (hn:0≤n) (hn2:n≤1000000) (hk:0<k) (hk2:k≤1000):qD.f n k=some (n/k,()):=by have h1:0≤n%k:=Int.emod_nonneg n (by omega);have h2:0≤n/k:=Int.ediv_nonneg hn (by omega);have h3:n/k≤n:=Int.ediv_le_self k hn;rw[qD.f_eq,tmn hn,tdn hn];simp(disch:=omega)only[ss]
theorem lH (y:Int) (hy:1≤y) (hy2:y≤10001):oC.f y=some (fst_ y,()):=by rw[oC.f_eq];have hw:w6 (y-1)=y-1:=wr (by omega) (by omega);rw[hw,qS (y-1) 4 (by omega) (by omega) (by omega) (by omega),qS (y-1) 100 (by omega) (by omega) (by omega) (by omega),qS (y-1) 400 (by omega) (by omega) (by omega) (by omega)];simp(disch:=omega)only[ss];rfl
theorem rR (y:Int) (hy:1≤y) (hy2:y≤10001): -1000000≤fst_ y∧fst_ y≤4000000:=by unfold fst_;omega
theorem yJ1 (y m d:Int):mH.f y m d=some (if lN y m d=true then(fst_ y+d-1+cum y m,0,())else(0,1,())):=by
 have h1:=uF1 y m d;rw[mH.f_eq,h1]
 cases hv:lN y m d with
 | false=>rfl
 | true=>
  unfold lN at hv;simp only[dV1,decide_eq_true_eq]at hv;obtain⟨⟨⟨h3,h4⟩,h5⟩,h6⟩:=hv;have hb:=gK y m;have hm:=hb.2.2 (by omega);have hN:=bP y m d h3 (by omega) hm.1 hm.2 h5 (by omega);have hfb:=rR y h3 (by omega);have hcb:=zM y m;rw[if_pos rfl];simp(disch:=omega)only[ss,hN]
theorem dG (y:Int) (hy:1≤y):fst_ (y+1)=fst_ y+cum y 13:=by
 unfold fst_ cum cumT
 have e:(if 3≤(13:Int)∧rI y=true then(1:Int)else 0)=y/4-(y-1)/4-(y/100-(y-1)/100)+(y/400-(y-1)/400):=by
  unfold rI;by_cases h1:y%4=0
  ·by_cases h2:y%100=0
   ·by_cases h5:y%400=0
    ·rw[if_pos ⟨by omega,by simp[h1,h2,h5]⟩];omega
    ·rw[if_neg (by simp[h1,h2,h5])];omega
   ·rw[if_pos ⟨by omega,by simp[h1,h2]⟩];omega
  ·rw[if_neg (by simp[h1])];omega
 rw[e];simp;omega
theorem zX (y:Int):365≤cum y 13∧cum y 13≤366:=by unfold cum cumT;split <;> (simp;try omega)
theorem nM1 {a b:Int} (h0:1≤a) (h:a<b):fst_ a+365≤fst_ b:=by
 obtain⟨k,hk⟩:=Int.eq_ofNat_of_zero_le (show 0≤b-a-1 by omega);have e:b=a+1+(k:Int):=by omega
 subst e;clear hk h
 induction k with
 | zero=>
  have:=dG a h0;have:=zX a;simp;omega
 | succ k ih=>
  have:=dG (a+1+(k:Int)) (by omega);have:=zX (a+1+(k:Int));rw[show a+1+((k+1:Nat):Int)=a+1+(k:Int)+1 by omega];omega
theorem nD {a b:Int} (h0:1≤a) (h:a≤b):fst_ a≤fst_ b:=by
 rcases Int.lt_or_eq_of_le h with h | h
 ·have:=nM1 h0 h;omega
 ·rw[h];exact rX1 _
theorem cZ :fst_ 1 = -719162:=by decide
theorem pG :fst_ 10000=2932897:=by decide
theorem wE1 (y:Int):cum y 1=0:=by unfold cum cumT;simp
theorem zL (y:Int) {a b:Int} (h0:1≤a) (h:a≤b) (h1:b≤13):cum y a≤cum y b:=by
 obtain⟨k,hk⟩:=Int.eq_ofNat_of_zero_le (show 0≤b-a by omega);have e:b=a+(k:Int):=by omega
 subst e;clear hk h
 induction k with
 | zero=>simp
 | succ k ih=>
  have:=ih (by omega);have h2:=zE y (a+(k:Int)) (by omega) (by omega);have:=gK y (a+(k:Int));rw[show a+((k+1:Nat):Int)=a+(k:Int)+1 by omega,h2];omega
theorem dP1 (n:Int) (h1: -719162≤n) (h2:n≤2932896):∃y,1≤y∧y≤9999∧fst_ y≤n∧n<fst_ (y+1):=by
 have key:∀k:Nat,k≤9999→n<fst_ (1+(k:Int)) → ∃y,1≤y∧y≤9999∧fst_ y≤n∧n<fst_ (y+1):=by
  intro k
  induction k with
  | zero=>
   intro _ h;rw[show(1:Int)+((0:Nat):Int)=1 from rfl,cZ]at h;omega
  | succ k ih=>
   intro hk h;by_cases c:n<fst_ (1+(k:Int))
   ·exact ih (by omega) c
   ·exact⟨1+(k:Int),by omega,by omega,by omega,by rw[show(1:Int)+(k:Int)+1=1+((k+1:Nat):Int) by omega];exact h⟩
 refine key 9999 (tV1 _) ?_;rw[show(1:Int)+((9999:Nat):Int)=10000 from rfl,pG];omega
theorem eM1 (y d:Int) (h1:0≤d) (h2:d<cum y 13):∃m,1≤m∧m≤12∧cum y m≤d∧d<cum y (m+1):=by
 have key:∀k:Nat,k≤12→d<cum y (1+(k:Int)) → ∃m,1≤m∧m≤12∧cum y m≤d∧d<cum y (m+1):=by
  intro k
  induction k with
  | zero=>
   intro _ h;rw[show(1:Int)+((0:Nat):Int)=1 from rfl,wE1]at h;omega
  | succ k ih=>
   intro hk h;by_cases c:d<cum y (1+(k:Int))
   ·exact ih (by omega) c
   ·exact⟨1+(k:Int),by omega,by omega,by omega,by rw[show(1:Int)+(k:Int)+1=1+((k+1:Nat):Int) by omega];exact h⟩
 exact key 12 (tV1 _) h2
def uG (n y m d:Int):Prop:=lN y m d=true∧fst_ y+d-1+cum y m=n
theorem pC {y m d:Int}:lN y m d=true↔1≤y∧y≤9999∧1≤d∧d≤mlen y m:=by unfold lN;simp only[dV1,decide_eq_true_eq,and_assoc]
theorem wE {n y m d:Int} (h:uG n y m d):fst_ y≤n∧n<fst_ (y+1)∧1≤m∧m≤12 ∧ -719162≤n∧n≤2932896:=by obtain⟨h1,h2⟩:=h;obtain⟨h3,h4,h5,h6⟩:=pC.1 h1;have hm:=(gK y m).2.2 (by omega);have hc:=zE y m hm.1 hm.2;have hb:=zM y m;have hs:=dG y h3;have hmo:=zL y (a:=m+1) (b:=13) (by omega) (by omega) (by omega);have h7:=nD (a:=1) (b:=y) (by omega) h3;have h8:=nD (a:=y+1) (b:=10000) (by omega) (by omega);rw[cZ]at h7;rw[pG]at h8;exact⟨by omega,by omega,hm.1,hm.2,by omega,by omega⟩
theorem aS1 (y d0 M:Int) (hy:1≤y) (hy2:y≤9999) (h1:0≤d0) (h2:M≤12) (h3:cum y M≤d0) (h4:d0<cum y (M+1)):∀(k:Nat) (m:Int),M-m=k→1≤m →
  uA.l5 y (d0-cum y m) m=some (y,M,d0-cum y M+1,0,())∧fB.l2 y (d0-cum y m) m=some (y,M,d0-cum y M+1,0,()):=by
 intro k
 induction k with
 | zero=>
  intro m hk hm;have e:m=M:=by omega
  subst e;have hc:=zE y m hm h2;have hb:=zM y m;have hb2:=zM y (m+1);rw[uA.l5_eq,fB.l2_eq,gH y m (by omega),aJ y m (by omega)];simp(disch:=omega)only[ss,ge_iff_le];exact⟨trivial,trivial⟩
 | succ k ih=>
  intro m hk hm;have hc:=zE y m hm (by omega);have hmo:=zL y (a:=m+1) (b:=M) (by omega) (by omega) (by omega);have hb:=zM y m;have hb1:=zM y M;have hb2:=zM y (m+1);have hb3:=zM y (M+1);rw[uA.l5_eq,fB.l2_eq,gH y m (by omega),aJ y m (by omega)];have e:d0-cum y m-mlen y m=d0-cum y (m+1):=by omega
  simp(disch:=omega)only[ss,ge_iff_le];rw[e];exact ih (m+1) (by omega) (by omega)
theorem uN1 (y:Int) (hy:1≤y) (hy2:y≤10000):zC.f y 1 1=some (fst_ y,()):=by
 rw[bP y 1 1 hy hy2 (by omega) (by omega) (by omega) (by omega),wE1]
 congr 2
 omega
theorem zR1 (n Y:Int) (hY:1≤Y) (h1:fst_ Y≤n) (h2:n<fst_ (Y+1)):∀(k:Nat) (z:Int),z-Y=k→z≤9999→uA.l4 n z=uA.l5 Y (n-fst_ Y) 1:=by
 intro k;have hfb:=rR (Y+1) (by omega)
 induction k with
 | zero=>
  intro z hk hz;have e:z=Y:=by omega
  subst e;have hfb:=rR z (by omega) (by omega);have hfb1:=rR (z+1) (by omega) (by omega);rw[uA.l4_eq,uN1 z (by omega) (by omega)];simp(disch:=omega)only[ss,gt_iff_lt]
 | succ k ih=>
  intro z hk hz;have hm:=nD (a:=Y+1) (b:=z) (by omega) (by omega);have hfb:=rR z (by omega) (by omega);rw[uA.l4_eq,uN1 z (by omega) (by omega)];simp(disch:=omega)only[ss,gt_iff_lt];exact ih (z-1) (by omega) (by omega)
theorem cS1 (n Y:Int) (hY:1≤Y) (hY2:Y≤9999) (h1:fst_ Y≤n) (h2:n<fst_ (Y+1)):∀(k:Nat) (y:Int),(Y-y).toNat=k→1≤y→y≤9999 → ∃z,Y≤z∧z≤9999∧uA.l1 n y=uA.l4 n z:=by
 intro k
 induction k with
 | zero=>
  intro y hk hy hy2;refine⟨y,by omega,hy2,?_⟩;rw[uA.l1_eq];by_cases c:y<9999
  ·have hm:=nD (a:=Y+1) (b:=y+1) (by omega) (by omega);have hw:w6 (y+1)=y+1:=wr (by omega) (by omega);rw[hw,uN1 (y+1) (by omega) (by omega)];simp(disch:=omega)only[ss,uA.l2_eq,uA.l3_eq]
  ·simp(disch:=omega)only[ss,uA.l2_eq,uA.l3_eq]
 | succ k ih=>
  intro y hk hy hy2;have hm:=nD (a:=y+1) (b:=Y) (by omega) (by omega);have hw:w6 (y+1)=y+1:=wr (by omega) (by omega);obtain⟨z,z1,z2,z3⟩:=ih (y+1) (by omega) (by omega) (by omega);refine⟨z,z1,z2,?_⟩;rw[uA.l1_eq,hw,uN1 (y+1) (by omega) (by omega)];simp(disch:=omega)only[ss,uA.l2_eq];exact z3
theorem vQ1 (n Y:Int) (hY:1≤Y) (hY2:Y≤9999) (h1:fst_ Y≤n) (h2:n<fst_ (Y+1)):∀(k:Nat) (y:Int),Y-y=k→1≤y→fB.l1 n y=fB.l2 Y (n-fst_ Y) 1:=by
 intro k
 induction k with
 | zero=>
  intro y hk hy;have e:y=Y:=by omega
  subst e;have hfb:=rR y (by omega) (by omega);have hfb1:=rR (y+1) (by omega) (by omega);have hw:w6 (y+1)=y+1:=wr (by omega) (by omega);rw[fB.l1_eq,hw,lH (y+1) (by omega) (by omega),lH y (by omega) (by omega)];simp(disch:=omega)only[ss]
 | succ k ih=>
  intro y hk hy;have hm:=nD (a:=y+1) (b:=Y) (by omega) (by omega);have hw:w6 (y+1)=y+1:=wr (by omega) (by omega);rw[fB.l1_eq,hw,lH (y+1) (by omega) (by omega)];simp(disch:=omega)only[ss];exact ih (y+1) (by omega) (by omega)
theorem oG (n:Int) (h1: -719162≤n) (h2:n≤2932896):∃y m d,uG n y m d∧uA.f n=some (y,m,d,0,())∧fB.f n=some (y,m,d,0,()):=by
 obtain⟨Y,y1,y2,y3,y4⟩:=dP1 n h1 h2;have hs:=dG Y y1;obtain⟨M,m1,m2,m3,m4⟩:=eM1 Y (n-fst_ Y) (by omega) (by omega);have hc:=zE Y M m1 m2;have h5:=aS1 Y (n-fst_ Y) M y1 y2 (by omega) m2 m3 m4 (M-1).toNat 1 (by omega) (by omega);rw[wE1,Int.sub_zero]at h5;refine⟨Y,M,n-fst_ Y-cum Y M+1,⟨pC.2 ⟨y1,y2,by omega,by omega⟩,by omega⟩,?_,?_⟩
 ·have hz1:(n+719162)*400/146097+1≤9999:=by omega
  obtain⟨z,z1,z2,z3⟩:=cS1 n Y y1 y2 y3 y4 _ ((n+719162)*400/146097+1) rfl (by omega) hz1;have h4:=zR1 n Y y1 y3 y4 (z-Y).toNat z (by omega) z2;rw[uA.f_eq,aL.f_eq];have e1:w6 (n - -719162)=n+719162:=by rw[wr (by omega) (by omega)];omega
  have e2:w6 ((n+719162)*400)=(n+719162)*400:=wr (by omega) (by omega);simp(disch:=omega)only[ss,e1,e2,tdn (show 0≤(n+719162)*400 by omega),ge_iff_le];rw[z3,h4];exact h5.1
 ·have hlow:fst_ (Y+1) ≤ -719162+366*Y:=by unfold fst_;omega
  have hv:=vQ1 n Y y1 y2 y3 y4 (Y-((n+719162)/366+1)).toNat ((n+719162)/366+1) (by omega) (by omega);have e1:w6 (n - -719162)=n+719162:=by rw[wr (by omega) (by omega)];omega
  rw[fB.f_eq,lJ.f_eq,lH 1 (by omega) (by omega),lH 10000 (by omega) (by omega),cZ,pG];simp(disch:=omega)only[ss,e1,tdn (show 0≤n+719162 by omega),ge_iff_le];rw[hv];exact h5.2
theorem cL1 (n:Int) (h:¬(-719162≤n∧n≤2932896)):uA.f n=some (0,0,0,1,())∧fB.f n=some (0,0,0,1,()):=by
 rw[uA.f_eq,aL.f_eq,fB.f_eq,lJ.f_eq,lH 1 (by omega) (by omega),lH 10000 (by omega) (by omega),cZ,pG];by_cases c: -719162≤n
 ·simp(disch:=omega)only[ss,ge_iff_le];exact⟨trivial,trivial⟩
 ·simp(disch:=omega)only[ss,ge_iff_le];exact⟨trivial,trivial⟩
theorem jL {n y m d y' m' d':Int} (h:uG n y m d) (g:uG n y' m' d'):y=y'∧m=m'∧d=d':=by
 obtain⟨h1,h2,h3,h4,_⟩:=wE h;obtain⟨g1,g2,g3,g4,_⟩:=wE g;obtain⟨a1,a2,a3,a4⟩:=pC.1 h.1;obtain⟨b1,b2,b3,b4⟩:=pC.1 g.1;have e:y=y':=by
  rcases Int.lt_trichotomy y y' with c | c | c
  ·have:=nD (a:=y+1) (b:=y') (by omega) (by omega);omega
  ·exact c
  ·have:=nD (a:=y'+1) (b:=y) (by omega) (by omega);omega
 subst e;have hh:=h.2;have hg:=g.2;have c1:=zE y m h3 h4;have c2:=zE y m' g3 g4;have em:m=m':=by
  rcases Int.lt_trichotomy m m' with c | c | c
  ·have:=zL y (a:=m+1) (b:=m') (by omega) (by omega) (by omega);omega
  ·exact c
  ·have:=zL y (a:=m'+1) (b:=m) (by omega) (by omega) (by omega);omega
 subst em;exact⟨rfl,rfl,by omega⟩
theorem tdm (t k:Int) (hk:0<k):Int.tdiv t k=(if t%k≠0∧t<0 then t/k+1 else t/k)∧Int.tmod t k=(if t%k≠0∧t<0 then t%k-k else t%k):=by
 by_cases h:0≤t
 ·rw[if_neg (by omega),if_neg (by omega)];exact⟨tdn h k,tmn h k⟩
 ·have e:t = -(-t):=by omega
  have h1:Int.tdiv t k = -((-t)/k):=by rw[e,Int.neg_tdiv,tdn (by omega),Int.neg_neg]
  have h2:Int.tmod t k = -((-t)%k):=by rw[e,Int.neg_tmod,tmn (by omega),Int.neg_neg]
  have h3:=Int.emod_add_mul_ediv t k;have h4:=Int.emod_add_mul_ediv (-t) k;have b1:=Int.emod_nonneg t (show k≠0 by omega);have b2:=mY1 t hk;have b3:=Int.emod_nonneg (-t) (show k≠0 by omega);have b4:=mY1 (-t) hk;rw[h1,h2];by_cases hz:t%k=0
  ·rw[if_neg (by omega),if_neg (by omega)];have hz2:(-t)%k=0:=by have:k∣t:=Int.dvd_of_emod_eq_zero hz;exact Int.emod_eq_zero_of_dvd (Int.dvd_neg.2 this)
   have:(-t)/k = -(t/k):=Int.neg_ediv_of_dvd (Int.dvd_of_emod_eq_zero hz);exact⟨by omega,by omega⟩
  ·rw[if_pos ⟨hz,by omega⟩,if_pos ⟨hz,by omega⟩];have hq:(-t)%k=k-t%k:=by
    have e1: -t=(k-t%k)+k*(-(t/k)-1):=by rw[Int.mul_sub,Int.mul_neg];omega
    rw[e1,Int.add_mul_emod_self_left,Int.emod_eq_of_lt (by omega) (by omega)]
   have hd:(-t)/k = -(t/k)-1:=by
    have:k*((-t)/k)=k*(-(t/k)-1):=by rw[Int.mul_sub,Int.mul_neg];omega
    exact Int.eq_of_mul_eq_mul_left (by omega) this
   exact⟨by omega,by omega⟩
theorem oD (t:Int) (h1: -9000000000000000000≤t) (h2:t≤9000000000000000000):vD.f t=some (t/86400,t%86400,())∧fF.f t=some (t/86400,t%86400,()):=by
 obtain⟨e1,e2⟩:=tdm t 86400 (by omega);rw[vD.f_eq,fF.f_eq,qD.f_eq,e1,e2];by_cases c:t%86400≠0∧t<0
 ·rw[if_pos c,if_pos c];have q1:t/86400+1-1=t/86400:=by omega
  have q2:t%86400-86400+86400=t%86400:=by omega
  simp(disch:=omega)only[ss,q1,q2];exact⟨trivial,trivial⟩
 ·rw[if_neg c,if_neg c];simp(disch:=omega)only[ss];exact⟨trivial,trivial⟩
theorem tH (t:Int):qF.f t=some (decide (-62135596800≤t∧t≤253402300799),())∧gE.f t=some (decide (-62135596800≤t∧t≤253402300799),()):=by
 rw[qF.f_eq,gE.f_eq];by_cases c: -62135596800≤t
 ·by_cases c2:t≤253402300799
  ·simp(disch:=omega)only[ss,ge_iff_le];exact⟨trivial,trivial⟩
  ·simp(disch:=omega)only[ss,ge_iff_le];exact⟨trivial,trivial⟩
 ·simp(disch:=omega)only[ss,ge_iff_le];exact⟨trivial,trivial⟩
def wk (n:Int):Int:=(n+3)%7
theorem pI1 (n:Int):0≤wk n∧wk n≤6:=by unfold wk;omega
theorem vH (n:Int):sE.f n=some (wk n,()):=by
 obtain⟨_,e⟩:=tdm n 7 (by omega);rw[sE.f_eq,e];unfold wk;by_cases c:n%7≠0∧n<0
 ·rw[if_pos c];simp(disch:=omega)only[ss,tmn (show(0:Int)≤n%7-7+7+3 by omega)]
  congr 2
  omega
 ·rw[if_neg c];simp(disch:=omega)only[ss,tmn (show(0:Int)≤n%7+7+3 by omega)]
  congr 2
  omega
theorem aE (n:Int):pD.f n=some (wk n,()):=by
 obtain⟨_,e⟩:=tdm n 7 (by omega);rw[pD.f_eq,e];unfold wk;by_cases c:n%7≠0∧n<0
 ·rw[if_pos c];simp(disch:=omega)only[ss,tmn (show(0:Int)≤n%7-7+10 by omega)]
  congr 2
  omega
 ·rw[if_neg c];simp(disch:=omega)only[ss,tmn (show(0:Int)≤n%7+10 by omega)]
  congr 2
  omega
theorem numJ (y:Int) (hy:0≤y) (hy2:y≤10001):zC.f y 1 1=some (fst_ y,()):=by
 rw[zC.f_eq];simp(disch:=omega)only[ss,tdn (show 0≤y-1+400 by omega),tdn (show(0:Int)≤153*(1+12-3)+2 by omega)]
 congr 2
 unfold fst_;omega
def w1 (y w:Int):Int:=fst_ y+3-(fst_ y+6-w)%7
theorem wH (y:Int) (hy:0≤y) (hy2:y≤10001): -1000000≤fst_ y∧fst_ y≤4000000:=by unfold fst_;omega
theorem fL (y w:Int) (hy:0≤y) (hy2:y≤10001) (hw:0≤w) (hw2:w≤6):lF.f y w=some (w1 y w,()):=by
 have hb:=wH y hy hy2;have hk:=pI1 (fst_ y);rw[lF.f_eq,numJ y hy hy2];simp only[cV1];rw[vH];simp(disch:=omega)only[ss,tmn (show(0:Int)≤wk (fst_ y)-w+7 by omega)];unfold w1;by_cases c:(wk (fst_ y)-w+7)%7≤3
 ·simp(disch:=omega)only[ss]
  congr 2
  unfold wk at *;omega
 ·simp(disch:=omega)only[ss]
  congr 2
  unfold wk at *;omega
theorem cI1 (y w:Int) (hy:0≤y) (hy2:y≤10001) (hw:0≤w) (hw2:w≤6) (hF:oC.f y=some (fst_ y,())):gF.f y w=some (w1 y w,()):=by
 have hb:=wH y hy hy2;have hk:=pI1 (fst_ y+3);rw[gF.f_eq,hF];simp(disch:=omega)only[ss,eI.f_eq,aE,tmn (show(0:Int)≤wk (fst_ y+3)-w+7 by omega)]
 congr 2
 unfold w1;unfold wk at *;omega
theorem cP1 (n k:Int) (hk:0<k) (hk2:k≤1000000) (h1: -1000000000000≤n) (h2:n≤1000000000000):qD.f n k=some (n/k,()):=by
 obtain⟨e1,e2⟩:=tdm n k hk;have b1:=Int.emod_nonneg n (show k≠0 by omega);have b2:=mY1 n hk;have b3:n/k≤1000000000000:=by have:=Int.ediv_le_ediv hk h2;have:=Int.ediv_le_self k (show(0:Int)≤1000000000000 by omega);omega
 have b4: -1000000000001≤n/k:=by
  have h5:=Int.ediv_le_ediv hk h1;have h6: -1000000000001 ≤ -1000000000000/k:=by have:=Int.emod_add_mul_ediv (-1000000000000) k;have:=mY1 (-1000000000000) hk;refine Int.le_ediv_of_mul_le hk ?_;have:1*1000000000001≤k*1000000000001:=Int.mul_le_mul_of_nonneg_right (by omega) (by omega);omega
  omega
 rw[qD.f_eq,e1,e2];by_cases c:n%k≠0∧n<0
 ·rw[if_pos c,if_pos c];have q:n/k+1-1=n/k:=by omega
  simp(disch:=omega)only[ss,q]
 ·rw[if_neg c,if_neg c];simp(disch:=omega)only[ss]
theorem nO (y:Int) (hy:0≤y) (hy2:y≤10001):oC.f y=some (fst_ y,()):=by rw[oC.f_eq];have hw:w6 (y-1)=y-1:=wr (by omega) (by omega);rw[hw,cP1 (y-1) 4 (by omega) (by omega) (by omega) (by omega),cP1 (y-1) 100 (by omega) (by omega) (by omega) (by omega),cP1 (y-1) 400 (by omega) (by omega) (by omega) (by omega)];simp(disch:=omega)only[ss];rfl
theorem wG (y:Int) (hy:0≤y):365≤fst_ (y+1)-fst_ y∧fst_ (y+1)-fst_ y≤366:=by
 by_cases c:1≤y
 ·have:=dG y c;have:=zX y;omega
 ·have:y=0:=by omega
  subst this;decide
theorem gL (y w:Int) (hy:0≤y):w1 (y+1) w=w1 y w+364∨w1 (y+1) w=w1 y w+371:=by have:=wG y hy;unfold w1;omega
theorem xH (y w:Int):fst_ y-3≤w1 y w∧w1 y w≤fst_ y+3∧(w1 y w+3-w)%7=0:=by unfold w1;omega
def rU (n w y k:Int):Prop:=w1 y w≤n∧n<w1 (y+1) w∧k=(n-w1 y w)/7+1
theorem zA1 {a b w:Int} (h0:0≤a) (h:a≤b):w1 a w≤w1 b w:=by
 obtain⟨k,hk⟩:=Int.eq_ofNat_of_zero_le (show 0≤b-a by omega);have e:b=a+(k:Int):=by omega
 subst e;clear hk h
 induction k with
 | zero=>simp
 | succ k ih=>
  have:=gL (a+(k:Int)) w (by omega);rw[show a+((k+1:Nat):Int)=a+(k:Int)+1 by omega];omega
theorem jJ {n w y k y' k':Int} (h0:0≤y) (h1:0≤y') (h:rU n w y k) (g:rU n w y' k'):y=y'∧k=k':=by
 obtain⟨a1,a2,a3⟩:=h;obtain⟨b1,b2,b3⟩:=g;have e:y=y':=by
  rcases Int.lt_trichotomy y y' with c | c | c
  ·have:=zA1 (a:=y+1) (b:=y') (w:=w) (by omega) (by omega);omega
  ·exact c
  ·have:=zA1 (a:=y'+1) (b:=y) (w:=w) (by omega) (by omega);omega
 subst e;exact⟨rfl,by omega⟩
theorem jZ (w:Int):gI.f w=some (decide (0≤w∧w≤6),()):=by
 rw[gI.f_eq];by_cases c:0≤w
 ·by_cases c2:w≤6
  ·simp(disch:=omega)only[ss,ge_iff_le]
  ·simp(disch:=omega)only[ss,ge_iff_le]
 ·simp(disch:=omega)only[ss,ge_iff_le]
theorem kA1 (n w Y:Int) (hY:0≤Y) (hY2:Y≤10001) (hw:0≤w) (hw2:w≤6) (h1:w1 Y w≤n) (h2:n≤4000000) (e:Int):nC.l2 n w Y=some (Y,(n-w1 Y w)/7+1,0,())∧qB.l2 n w Y e=some (Y,(n-w1 Y w)/7+1,e,()):=by have c:=fL Y w hY hY2 hw hw2;have u:=cI1 Y w hY hY2 hw hw2 (nO _ hY hY2);have f:=wH Y hY hY2;have g:=xH Y w;rw[nC.l2_eq,qB.l2_eq,c,u];simp(disch:=omega)only[ss,tdn (show(0:Int)≤n-w1 Y w by omega)];exact⟨trivial,trivial⟩
theorem pQ1 (n w Y:Int) (hY:1≤Y) (hY2:Y≤9999) (hw:0≤w) (hw2:w≤6) (q1:fst_ Y≤n) (q2:n<fst_ (Y+1)):∃y k,rU n w y k∧0≤y∧y≤10000∧1≤k∧k≤53∧nC.l1 n w Y false=some (y,k,0,())∧qB.l1 n w Y 0 false=some (y,k,0,()):=by
 have f2:=wH (Y+1) (by omega) (by omega);have n0:=xH (Y-1) w;have n1:=xH Y w;have n2:=xH (Y+1) w;have n3:=xH (Y+2) w;have s0:=gL (Y-1) w (by omega);have s1:=gL Y w (by omega);have s2:=gL (Y+1) w (by omega);have p0:=wG (Y-1) (by omega);rw[show Y-1+1=Y by omega]at s0 p0;rw[show Y+1+1=Y+2 by omega]at s2;have c1:=fL Y w (by omega) (by omega) hw hw2;have c2:=fL (Y+1) w (by omega) (by omega) hw hw2;have u1:=cI1 Y w (by omega) (by omega) hw hw2 (nO _ (by omega) (by omega));have u2:=cI1 (Y+1) w (by omega) (by omega) hw hw2 (nO _ (by omega) (by omega));have wp:w6 (Y+1)=Y+1:=wr (by omega) (by omega);have wm:w6 (Y-1)=Y-1:=wr (by omega) (by omega);rw[nC.l1_eq,qB.l1_eq,cond_false,cond_false,wp,wm,c1,c2,u1,u2];simp only[cV1];by_cases cl:n<w1 Y w
 ·have hn:¬n≥w1 (Y+1) w:=by omega
  have h:=kA1 n w (Y-1) (by omega) (by omega) hw hw2 (by omega) (by omega) 0;refine⟨Y-1,(n-w1 (Y-1) w)/7+1,⟨by omega,by rw[show Y-1+1=Y by omega];exact cl,rfl⟩,by omega,by omega,by omega,by omega,?_,?_⟩
  ·rw[dp cl,cond_true];exact h.1
  ·rw[dn hn,dp cl,cond_true,cond_false];exact h.2
 ·by_cases cu:n≥w1 (Y+1) w
  ·have h:=kA1 n w (Y+1) (by omega) (by omega) hw hw2 (by omega) (by omega) 0;refine⟨Y+1,(n-w1 (Y+1) w)/7+1,⟨by omega,by rw[show Y+1+1=Y+2 by omega];omega,rfl⟩,by omega,by omega,by omega,by omega,?_,?_⟩
   ·rw[dn cl,dp cu,cond_true,cond_false];exact h.1
   ·rw[dp cu,cond_true];exact h.2
  ·have h:=kA1 n w Y (by omega) (by omega) hw hw2 (by omega) (by omega) 0;refine⟨Y,(n-w1 Y w)/7+1,⟨by omega,by omega,rfl⟩,by omega,by omega,by omega,by omega,?_,?_⟩
   ·rw[dn cl,dn cu,cond_false,cond_false];exact h.1
   ·rw[dn cl,dn cu,cond_false,cond_false];exact h.2
theorem eN (n w:Int) (h1: -719162≤n) (h2:n≤2932896) (hw:0≤w) (hw2:w≤6):∃y k,rU n w y k∧0≤y∧y≤10000∧1≤k∧k≤53∧nC.f n w=some (y,k,0,())∧qB.f n w=some (y,k,0,()):=by
 obtain⟨Y,m,d,hd,e1,e2⟩:=oG n h1 h2;obtain⟨q1,q2,_⟩:=wE hd;obtain⟨v1,v2,_⟩:=pC.1 hd.1;obtain⟨y,k,g1,g2,g3,g4,g5,g6,g7⟩:=pQ1 n w Y v1 v2 hw hw2 q1 q2;refine⟨y,k,g1,g2,g3,g4,g5,?_,?_⟩
 ·rw[nC.f_eq,e1];simp only[cV1];rw[jZ,dp (show 0≤w∧w≤6 from⟨hw,hw2⟩)];exact g6
 ·have a1:¬w<0:=by omega
  have a2:¬w>6:=by omega
  rw[qB.f_eq,e2];simp only[cV1];rw[dn a1,dn a2];exact g7
theorem aY (y:Int):eH.f y=some (decide (1≤y∧y≤9999),()):=by
 rw[eH.f_eq];by_cases c:1≤y
 ·by_cases c2:y≤9999
  ·simp(disch:=omega)only[ss,ge_iff_le]
  ·simp(disch:=omega)only[ss,ge_iff_le]
 ·simp(disch:=omega)only[ss,ge_iff_le]
def wks (y w:Int):Int:=(w1 (y+1) w-w1 y w)/7
theorem vF1 (y w:Int) (hy:0≤y):(wks y w=52∨wks y w=53)∧w1 (y+1) w=w1 y w+7*wks y w:=by have:=gL y w hy;unfold wks;omega
theorem aF1 (y w:Int):nI.f y w=some (if(1≤y∧y≤9999)∧0≤w∧w≤6 then(wks y w,0,())else(0,1,())):=by
 rw[nI.f_eq,aY];by_cases c:1≤y∧y≤9999
 ·rw[dp c];simp only[cV1];rw[jZ];by_cases c2:0≤w∧w≤6
  ·rw[dp c2,if_pos ⟨c,c2⟩];have h1:=fL (y+1) w (by omega) (by omega) c2.1 c2.2;have h2:=fL y w (by omega) (by omega) c2.1 c2.2;have f1:=xH (y+1) w;have f2:=xH y w;have f3:=wH y (by omega) (by omega);have f4:=wH (y+1) (by omega) (by omega);have s:=gL y w (by omega);have wp:w6 (y+1)=y+1:=wr (by omega) (by omega);rw[wp,h1,h2];unfold wks;simp(disch:=omega)only[ss,tdn (show(0:Int)≤w1 (y+1) w-w1 y w by omega)]
  ·rw[dn c2,if_neg fun q=>c2 q.2];simp(disch:=omega)only[ss]
 ·rw[dn c,if_neg fun q=>c q.1];simp(disch:=omega)only[ss]
theorem pP (n y m d:Int) (h:uG n y m d) (e:uA.f n=some (y,m,d,0,())):bG.f n=some (y,n-fst_ y+1,0,()):=by obtain⟨q1,q2,q3,q4,q5,q6⟩:=wE h;obtain⟨v1,v2,_⟩:=pC.1 h.1;have f:=wH y (by omega) (by omega);rw[bG.f_eq,e];simp(disch:=omega)only[ss,numJ y (by omega) (by omega)]
abbrev Dy :=Int×Int×Unit
def dyLt (a b:Dy):Prop:=a.1<b.1∨a.1=b.1∧a.2.1<b.2.1
def sC (f:Option (Bool×Unit)) (p:Prop):Prop:=∃b,f=some (b,())∧(b=true↔p)
theorem sC.iff {f:Option (Bool×Unit)} {p q:Prop} (h:sC f p) (e:p↔q):sC f q:=by obtain⟨b,h1,h2⟩:=h;exact⟨b,h1,h2.trans e⟩
theorem sC.eq {f g:Option (Bool×Unit)} {p:Prop} (h:sC f p) (k:sC g p):f=g:=by
 obtain⟨b,h1,h2⟩:=h;obtain⟨c,k1,k2⟩:=k;have:b=c:=by cases b <;> cases c <;> simp at h2 k2 <;> first | rfl | exact absurd k2 h2 | exact absurd h2 k2
 rw[h1,k1,this]
def okI (l:List Int) (lo hi:Int) (z:Bool) (j:Nat):Prop:=lo≤l.getD j 0∧l.getD j 0≤hi∧(l.getD j 0=0→z=true)
def adjI (l:List Int) (j:Nat):Prop:=0<j→l.getD (j-1) 0<l.getD j 0
theorem rH1 (l:List Int) (lo hi:Int) (z:Bool) (hl:l.length≤1000000):∀(k i:Nat),l.length-i=k→i≤l.length →
  sC (iB.l1 l lo hi z l l.length i) ((∀j,i≤j→j<l.length→okI l lo hi z j∧adjI l j)∧l.length≤60):=by
 intro k
 induction k with
 | zero=>
  intro i hk hil;rw[iB.l1_eq];simp(disch:=omega)only[ss];refine⟨_,rfl,?_⟩;rw[decide_eq_true_eq];exact⟨fun h=>⟨fun j h1 h2=>by omega,by omega⟩,fun h=>by omega⟩
 | succ k ih=>
  intro i hk hil;have hlt:i<l.length:=by omega
  have step:okI l lo hi z i∧adjI l i→sC (iB.l2 l lo hi z l l.length i false) ((∀j,i≤j→j<l.length→okI l lo hi z j∧adjI l j)∧l.length≤60):=fun h=>by
   rw[iB.l2_eq];simp(disch:=omega)only[ss];refine(ih (i+1) (by omega) (by omega)).iff ⟨fun q=>⟨fun j h1 h2=>?_,q.2⟩,fun q=>⟨fun j h1 h2=>q.1 j (by omega) h2,q.2⟩⟩;by_cases e:j=i
   ·subst e;exact h
   ·exact q.1 j (by omega) h2
  have stop:¬(okI l lo hi z i∧adjI l i)→sC (iB.l2 l lo hi z l l.length i true) ((∀j,i≤j→j<l.length→okI l lo hi z j∧adjI l j)∧l.length≤60):=fun h=>by rw[iB.l2_eq,cond_true];exact⟨false,rfl,by simp;intro q;exact absurd (q i (tV1 _) hlt) h⟩
  have last:okI l lo hi z i→sC (bif decide ((i:Int)>0)then(bif decide (0≤(i:Int)-1)then(iB.l2 l lo hi z l l.length i (decide (l.getD i 0≤l.getD (i-1) 0)))else none)else(iB.l2 l lo hi z l l.length i false)) ((∀j,i≤j→j<l.length→okI l lo hi z j∧adjI l j)∧l.length≤60):=fun h=>by
   by_cases h0:i=0
   ·simp(disch:=omega)only[ss];exact step ⟨h,fun q=>by omega⟩
   ·simp(disch:=omega)only[ss];by_cases c:l.getD i 0≤l.getD (i-1) 0
    ·rw[dp c];exact stop fun q=>by have:=q.2 (by omega);omega
    ·rw[dn c];exact step ⟨h,fun _=>by omega⟩
  rw[iB.l1_eq];simp(disch:=omega)only[ss];by_cases c1:l.getD i 0<lo
  ·rw[dp c1,cond_true];exact stop fun q=>by have:=q.1.1;omega
  ·by_cases c2:l.getD i 0>hi
   ·rw[dn c1,dp c2,cond_false,cond_true];exact stop fun q=>by have:=q.1.2.1;omega
   ·rw[dn c1,dn c2,cond_false,cond_false];by_cases c3:l.getD i 0=0
    ·rw[dp c3,cond_true]
     cases z with
     | false=>
      exact stop fun q=>by have:=q.1.2.2 c3;cases this
     | true=>exact last ⟨by omega,by omega,fun _=>rfl⟩
    ·rw[dn c3,cond_false];exact last ⟨by omega,by omega,fun q=>absurd q c3⟩
def wi (l:List Int) (lo hi:Int) (z:Bool):Prop:=(∀j,j<l.length→okI l lo hi z j∧adjI l j)∧l.length≤60
theorem xF (l:List Int) (lo hi:Int) (z:Bool) (hl:l.length≤1000000):sC (iB.f l lo hi z) (wi l lo hi z):=by have:=rH1 l lo hi z hl _ 0 rfl (hV1 _);rw[oV1]at this;rw[iB.f_eq];exact this.iff ⟨fun h=>⟨fun j h2=>h.1 j (hV1 _) h2,h.2⟩,fun h=>⟨fun j _ h2=>h.1 j h2,h.2⟩⟩
theorem eH1 (l:List Int) (hl:l.length≤1000000):∀(k i:Nat),l.length-i=k→0<i→sC (xC.l1 l i) (∀j,i≤j→j<l.length→adjI l j):=by
 intro k
 induction k with
 | zero=>
  intro i hk hil;rw[xC.l1_eq];by_cases hlt:i<l.length
  ·omega
  ·simp(disch:=omega)only[ss];exact⟨true,rfl,by simp;intro j h1 h2;omega⟩
 | succ k ih=>
  intro i hk hil;have hlt:i<l.length:=by omega
  have w1:w6 ((i:Int)-1)=((i-1:Nat):Int):=aI1 (by omega) (by omega);rw[xC.l1_eq];simp(disch:=omega)only[ss,w1];by_cases c:l.getD i 0≤l.getD (i-1) 0
  ·rw[dp c,cond_true];exact⟨false,rfl,by simp;exact⟨i,tV1 _,hlt,fun q=>by have:=q hil;omega⟩⟩
  ·rw[dn c,cond_false];refine(ih (i+1) (by omega) (by omega)).iff ⟨fun q j h1 h2=>?_,fun q j h1 h2=>q j (by omega) h2⟩;by_cases e:j=i
   ·subst e;intro _;omega
   ·exact q j (by omega) h2
theorem gA1 (l:List Int) (hl:l.length≤1000000):sC (xC.f l) (∀j,j<l.length→adjI l j):=by have:=eH1 l hl _ 1 rfl (by omega);rw[xC.f_eq];exact this.iff ⟨fun h j h2 h0=>h j (by omega) h2 h0,fun h j _ h2=>h j h2⟩
theorem fE1 (l:List Int) (lo hi:Int) (z:Bool) (hl:l.length≤1000000):∀(k i:Nat),l.length-i=k→i≤l.length →
  sC (bB.l1 l lo hi z i) ((∀j,i≤j→j<l.length→okI l lo hi z j)∧(∀j,j<l.length→adjI l j)∧l.length≤60):=by
 intro k
 induction k with
 | zero=>
  intro i hk hil;rw[bB.l1_eq];simp(disch:=omega)only[ss];by_cases c:(l.length:Int)≤60
  ·obtain⟨b,h1,h2⟩:=gA1 l hl;simp(disch:=omega)only[ss,h1];exact⟨b,rfl,h2.trans ⟨fun q=>⟨fun j h3 h4=>by omega,q,by omega⟩,fun q=>q.2.1⟩⟩
  ·simp(disch:=omega)only[ss];exact⟨false,rfl,by simp;intro _ _;omega⟩
 | succ k ih=>
  intro i hk hil;have hlt:i<l.length:=by omega
  have step:okI l lo hi z i→sC (bB.l2 l lo hi z i false) ((∀j,i≤j→j<l.length→okI l lo hi z j)∧(∀j,j<l.length→adjI l j)∧l.length≤60):=fun h=>by
   rw[bB.l2_eq];simp(disch:=omega)only[ss];refine(ih (i+1) (by omega) (by omega)).iff ⟨fun q=>⟨fun j h1 h2=>?_,q.2⟩,fun q=>⟨fun j h1 h2=>q.1 j (by omega) h2,q.2⟩⟩;by_cases e:j=i
   ·subst e;exact h
   ·exact q.1 j (by omega) h2
  have stop:¬okI l lo hi z i→sC (bB.l2 l lo hi z i true) ((∀j,i≤j→j<l.length→okI l lo hi z j)∧(∀j,j<l.length→adjI l j)∧l.length≤60):=fun h=>by rw[bB.l2_eq,cond_true];exact⟨false,rfl,by simp;intro q;exact absurd (q i (tV1 _) hlt) h⟩
  rw[bB.l1_eq];simp(disch:=omega)only[ss];by_cases c1:l.getD i 0<lo
  ·rw[dp c1,cond_true];exact stop fun q=>by have:=q.1;omega
  ·by_cases c2:l.getD i 0>hi
   ·rw[dn c1,dp c2,cond_false,cond_true];exact stop fun q=>by have:=q.2.1;omega
   ·rw[dn c1,dn c2,cond_false,cond_false];by_cases c3:l.getD i 0=0
    ·rw[dp c3,cond_true]
     cases z with
     | false=>exact stop fun q=>by have:=q.2.2 c3;cases this
     | true=>exact step ⟨by omega,by omega,fun _=>rfl⟩
    ·rw[dn c3,cond_false];exact step ⟨by omega,by omega,fun q=>absurd q c3⟩
theorem eF (l:List Int) (lo hi:Int) (z:Bool) (hl:l.length≤1000000):sC (bB.f l lo hi z) (wi l lo hi z):=by have:=fE1 l lo hi z hl _ 0 rfl (hV1 _);rw[oV1]at this;rw[bB.f_eq];exact this.iff ⟨fun h=>⟨fun j h2=>⟨h.1 j (hV1 _) h2,h.2.1 j h2⟩,h.2.2⟩,fun h=>⟨fun j _ h2=>(h.1 j h2).1,fun j h2=>(h.1 j h2).2,h.2⟩⟩
def gD (l:List Dy) (j:Nat):Dy:=l.getD j ((0,0,()):Int×Int×Unit)
def okD (l:List Dy) (j:Nat):Prop:= -53≤(gD l j).1∧(gD l j).1≤53∧0≤(gD l j).2.1∧(gD l j).2.1≤6∧(0<j→dyLt (gD l (j-1)) (gD l j))
def dwi (l:List Dy):Prop:=(∀j,j<l.length→okD l j)∧l.length≤60
theorem hT1 (l:List Dy) (hl:l.length≤1000000):∀(k i:Nat),l.length-i=k→i≤l.length→sC (aB.l1 l i) ((∀j,i≤j→j<l.length→okD l j)∧l.length≤60):=by
 intro k
 induction k with
 | zero=>
  intro i hk hil;rw[aB.l1_eq];simp(disch:=omega)only[ss];refine⟨_,rfl,?_⟩;rw[decide_eq_true_eq];exact⟨fun h=>⟨fun j h1 h2=>by omega,by omega⟩,fun h=>by omega⟩
 | succ k ih=>
  intro i hk hil;have hlt:i<l.length:=by omega
  have step:okD l i→sC (aB.l2 l i false) ((∀j,i≤j→j<l.length→okD l j)∧l.length≤60):=fun h=>by
   rw[aB.l2_eq];simp(disch:=omega)only[ss];refine(ih (i+1) (by omega) (by omega)).iff ⟨fun q=>⟨fun j h1 h2=>?_,q.2⟩,fun q=>⟨fun j h1 h2=>q.1 j (by omega) h2,q.2⟩⟩;by_cases e:j=i
   ·subst e;exact h
   ·exact q.1 j (by omega) h2
  have stop:¬okD l i→sC (aB.l2 l i true) ((∀j,i≤j→j<l.length→okD l j)∧l.length≤60):=fun h=>by rw[aB.l2_eq,cond_true];exact⟨false,rfl,by simp;intro q;exact absurd (q i (tV1 _) hlt) h⟩
  have hg:l.getD i ((0,0,()):Int×Int×Unit)=gD l i:=rfl;have hg1:l.getD (i-1) ((0,0,()):Int×Int×Unit)=gD l (i-1):=rfl;rw[aB.l1_eq];simp(disch:=omega)only[ss,hg];by_cases c1:(gD l i).1 < -53
  ·rw[dp c1,cond_true];exact stop fun q=>by have:=q.1;omega
  ·by_cases c2:(gD l i).1>53
   ·rw[dn c1,dp c2,cond_false,cond_true];exact stop fun q=>by have:=q.2.1;omega
   ·by_cases c3:(gD l i).2.1<0
    ·rw[dn c1,dn c2,dp c3,cond_false,cond_false,cond_true];exact stop fun q=>by have:=q.2.2.1;omega
    ·by_cases c4:(gD l i).2.1>6
     ·rw[dn c1,dn c2,dn c3,dp c4,cond_false,cond_false,cond_false,cond_true];exact stop fun q=>by have:=q.2.2.2.1;omega
     ·rw[dn c1,dn c2,dn c3,dn c4,cond_false,cond_false,cond_false,cond_false];by_cases h0:i=0
      ·simp(disch:=omega)only[ss];exact step ⟨by omega,by omega,by omega,by omega,fun q=>by omega⟩
      ·have w1:w6 ((i:Int)-1)=((i-1:Nat):Int):=aI1 (by omega) (by omega);simp(disch:=omega)only[ss,w1,hg1];by_cases c5:(gD l i).1<(gD l (i-1)).1
       ·rw[dp c5,cond_true];exact stop fun q=>by have:=q.2.2.2.2 (by omega);unfold dyLt at this;omega
       ·by_cases c6:(gD l i).1=(gD l (i-1)).1
        ·rw[dn c5,dp c6,cond_false,cond_true];by_cases c7:(gD l i).2.1≤(gD l (i-1)).2.1
         ·rw[dp c7];exact stop fun q=>by have:=q.2.2.2.2 (by omega);unfold dyLt at this;omega
         ·rw[dn c7];exact step ⟨by omega,by omega,by omega,by omega,fun _=>by unfold dyLt;omega⟩
        ·rw[dn c5,dn c6,cond_false,cond_false];exact step ⟨by omega,by omega,by omega,by omega,fun _=>by unfold dyLt;omega⟩
theorem xD1 (l:List Dy) (hl:l.length≤1000000):sC (aB.f l) (dwi l):=by have:=hT1 l hl _ 0 rfl (hV1 _);rw[oV1]at this;rw[aB.f_eq];exact this.iff ⟨fun h=>⟨fun j h2=>h.1 j (hV1 _) h2,h.2⟩,fun h=>⟨fun j _ h2=>h.1 j h2,h.2⟩⟩
theorem yE1 (l:List Dy) (hl:l.length≤1000000):sC (aC.f l) (∃j,j<l.length∧(gD l j).1≠0):=by
 have key:∀(k i:Nat),l.length-i=k→i≤l.length→sC (aC.l1 l i) (∃j,i≤j∧j<l.length∧(gD l j).1≠0):=by
  intro k
  induction k with
  | zero=>
   intro i hk hil;rw[aC.l1_eq];simp(disch:=omega)only[ss];exact⟨false,rfl,by simp;intro j h1 h2;omega⟩
  | succ k ih=>
   intro i hk hil;have hlt:i<l.length:=by omega
   have hg:l.getD i ((0,0,()):Int×Int×Unit)=gD l i:=rfl;rw[aC.l1_eq];simp(disch:=omega)only[ss,hg];by_cases c:(gD l i).1=0
   ·rw[dp c];simp(disch:=omega)only[ss];refine(ih (i+1) (by omega) (by omega)).iff ⟨fun⟨j,h1,h2,h3⟩=>⟨j,by omega,h2,h3⟩,fun⟨j,h1,h2,h3⟩=>⟨j,?_,h2,h3⟩⟩;by_cases e:j=i
    ·subst e;exact absurd c h3
    ·omega
   ·rw[dn c];simp(disch:=omega)only[ss];exact⟨true,rfl,by simp;exact⟨i,tV1 _,hlt,c⟩⟩
 have:=key _ 0 rfl (hV1 _);rw[oV1]at this;rw[aC.f_eq];exact this.iff ⟨fun⟨j,_,h⟩=>⟨j,h⟩,fun⟨j,h⟩=>⟨j,hV1 _,h⟩⟩
abbrev Rl :=Int×Int×Int×Int×Int×Bool×List Int×List Int×List Int×List Int×List Dy×List Int×List Int×List Int×List Int×Unit
def Gate (f:Option (Bool×Unit)) (p:Prop) (K:Option (Bool×Unit)):Prop:=(p→f=K)∧(¬p→f=some (false,()))
theorem Gate.iff {f K:Option (Bool×Unit)} {p q:Prop} (h:Gate f p K) (e:p↔q):Gate f q K:=⟨fun x=>h.1 (e.2 x),fun x=>h.2 fun y=>x (e.1 y)⟩
theorem Gate.eq {f g K:Option (Bool×Unit)} {p:Prop} (h:Gate f p K) (k:Gate g p K):f=g:=by
 by_cases hp:p
 ·rw[h.1 hp,k.1 hp]
 ·rw[h.2 hp,k.2 hp]
theorem qG {f g K:Option (Bool×Unit)} {p q:Prop} (h:sC f p) (k:Gate g q K):Gate (f.bind fun t=>bif !t.1 then some (false,())else g) (p∧q) K:=by
 obtain⟨b,h1,h2⟩:=h;rw[h1];simp only[cV1]
 cases b with
 | true=>exact⟨fun x=>k.1 x.2,fun x=>k.2 fun y=>x ⟨h2.1 rfl,y⟩⟩
 | false=>exact⟨fun x=>absurd (h2.2 x.1) (by simp),fun _=>rfl⟩
theorem oF {f g:Option (Bool×Unit)} {p q:Prop} (h:sC f p) (k:sC g q):sC (f.bind fun t=>bif t.1 then g else some (false,())) (p∧q):=by
 obtain⟨b,h1,h2⟩:=h;obtain⟨c,k1,k2⟩:=k;rw[h1];simp only[cV1]
 cases b with
 | true=>rw[cond_true];exact⟨c,k1,⟨fun x=>⟨h2.1 rfl,k2.1 x⟩,fun x=>k2.2 x.2⟩⟩
 | false=>exact⟨false,rfl,⟨fun x=>by simp at x,fun x=>absurd (h2.2 x.1) (by simp)⟩⟩
theorem wT {f:Option (Bool×Unit)} {p:Prop} (h:sC f p):sC (f.bind fun t=>some (t.1,())) p:=by obtain⟨b,h1,h2⟩:=h;exact⟨b,by rw[h1];rfl,h2⟩
def numd (f:Int) (we:List Int) (l:List Dy) (j:Nat):Prop:=(gD l j).1≠0→f=2∨f=1∧we.length=0
section
variable (f iv ct un wk : Int) (en : Bool) (mo we yd md : List Int) (dy : List Dy) (ho mi se po : List Int)
theorem gN1 (hl:dy.length≤1000000) (hw:we.length≤1000000):∀(k i:Nat),dy.length-i=k→i≤dy.length→(∀j,j<i→okD dy j) →
  sC (cB.l1 dy dy.length i (f,iv,ct,un,wk,en,mo,we,yd,md,dy,ho,mi,se,po,())) ((∀j,i≤j→j<dy.length→okD dy j∧numd f we dy j)∧dy.length≤60):=by
 intro k
 induction k with
 | zero=>
  intro i hk hil hpre;rw[cB.l1_eq];simp(disch:=omega)only[ss];refine⟨_,rfl,?_⟩;rw[decide_eq_true_eq];exact⟨fun h=>⟨fun j h1 h2=>by omega,by omega⟩,fun h=>by omega⟩
 | succ k ih=>
  intro i hk hil hpre;have hlt:i<dy.length:=by omega
  have hg:dy.getD i ((0,0,()):Int×Int×Unit)=gD dy i:=rfl;have hg1:dy.getD (i-1) ((0,0,()):Int×Int×Unit)=gD dy (i-1):=rfl;have stop:¬(okD dy i∧numd f we dy i)→sC (some (false,())) ((∀j,i≤j→j<dy.length→okD dy j∧numd f we dy j)∧dy.length≤60):=fun h=>
   ⟨false,rfl,by simp;intro q;exact absurd (q i (tV1 _) hlt) h⟩
  have go:okD dy i→numd f we dy i→sC (cB.l3 dy dy.length i false (f,iv,ct,un,wk,en,mo,we,yd,md,dy,ho,mi,se,po,())) ((∀j,i≤j→j<dy.length→okD dy j∧numd f we dy j)∧dy.length≤60):=fun h h'=>by
   rw[cB.l3_eq];simp(disch:=omega)only[ss];refine(ih (i+1) (by omega) (by omega) fun j hj=>?_).iff ⟨fun q=>⟨fun j h1 h2=>?_,q.2⟩,fun q=>⟨fun j h1 h2=>q.1 j (by omega) h2,q.2⟩⟩
   ·by_cases e:j=i
    ·subst e;exact h
    ·exact hpre j (by omega)
   ·by_cases e:j=i
    ·subst e;exact⟨h,h'⟩
    ·exact q.1 j (by omega) h2
  have l3t:cB.l3 dy dy.length i true (f,iv,ct,un,wk,en,mo,we,yd,md,dy,ho,mi,se,po,())=some (false,()):=by rw[cB.l3_eq,cond_true]
  have bad:∀a b,¬okD dy i→sC (cB.l2 dy dy.length i true (f,iv,ct,un,wk,en,mo,we,yd,md,dy,ho,mi,se,po,()) (a,b,())) ((∀j,i≤j→j<dy.length→okD dy j∧numd f we dy j)∧dy.length≤60):=fun a b h=>by rw[cB.l2_eq,cond_true];exact stop fun q=>h q.1
  have good:okD dy i→sC (cB.l2 dy dy.length i false (f,iv,ct,un,wk,en,mo,we,yd,md,dy,ho,mi,se,po,()) (gD dy i)) ((∀j,i≤j→j<dy.length→okD dy j∧numd f we dy j)∧dy.length≤60):=fun h=>by
   rw[cB.l2_eq,cond_false];by_cases c1:(gD dy i).1=0
   ·simp(disch:=omega)only[ss];exact go h fun q=>absurd c1 q
   ·by_cases c2:f=2
    ·simp(disch:=omega)only[ss];exact go h fun _=>.inl c2
    ·by_cases c3:f=1
     ·by_cases c4:(we.length:Int)>0
      ·simp(disch:=omega)only[ss,l3t];exact stop fun q=>by rcases q.2 c1 with q | q <;> omega
      ·simp(disch:=omega)only[ss];exact go h fun _=>.inr ⟨c3,by omega⟩
     ·simp(disch:=omega)only[ss,l3t];exact stop fun q=>by rcases q.2 c1 with q | q <;> omega
  rw[cB.l1_eq];simp(disch:=omega)only[ss,hg];by_cases c1:(gD dy i).1 < -53
  ·rw[dp c1,cond_true];exact bad _ _ fun q=>by have:=q.1;omega
  ·by_cases c2:(gD dy i).1>53
   ·rw[dn c1,dp c2,cond_false,cond_true];exact bad _ _ fun q=>by have:=q.2.1;omega
   ·by_cases c3:(gD dy i).2.1<0
    ·rw[dn c1,dn c2,dp c3,cond_false,cond_false,cond_true];exact bad _ _ fun q=>by have:=q.2.2.1;omega
    ·by_cases c4:(gD dy i).2.1>6
     ·rw[dn c1,dn c2,dn c3,dp c4,cond_false,cond_false,cond_false,cond_true];exact bad _ _ fun q=>by have:=q.2.2.2.1;omega
     ·rw[dn c1,dn c2,dn c3,dn c4,cond_false,cond_false,cond_false,cond_false];by_cases h0:i=0
      ·simp(disch:=omega)only[ss];exact good ⟨by omega,by omega,by omega,by omega,fun q=>by omega⟩
      ·have hp:=hpre (i-1) (by omega);have b1:=hp.1;have b2:=hp.2.1;have b3:=hp.2.2.1;have b4:=hp.2.2.2.1;simp(disch:=omega)only[ss,hg1,vL.f_eq];by_cases c6:(gD dy (i-1)).1=(gD dy i).1
       ·simp(disch:=omega)only[ss];by_cases c7:(gD dy (i-1)).2.1-(gD dy i).2.1≥0
        ·rw[dp c7];exact bad _ _ fun q=>by have:=q.2.2.2.2 (by omega);unfold dyLt at this;omega
        ·rw[dn c7];exact good ⟨by omega,by omega,by omega,by omega,fun _=>by unfold dyLt;omega⟩
       ·simp(disch:=omega)only[ss];by_cases c7:(gD dy (i-1)).1-(gD dy i).1≥0
        ·rw[dp c7];exact bad _ _ fun q=>by have:=q.2.2.2.2 (by omega);unfold dyLt at this;omega
        ·rw[dn c7];exact good ⟨by omega,by omega,by omega,by omega,fun _=>by unfold dyLt;omega⟩
def qX :Prop:=wi mo 1 12 false∧wi we (-53) 53 false∧wi yd (-366) 366 false∧wi md (-31) 31 false∧wi ho 0 23 true∧wi mi 0 59 true∧wi se 0 59 true∧wi po (-366) 366 false∧(dwi dy ∧ ∀j,j<dy.length→numd f we dy j)
def kL :Prop:=mo.length≤100000∧we.length≤100000∧yd.length≤100000∧md.length≤100000∧dy.length≤100000∧ho.length≤100000∧mi.length≤100000∧se.length≤100000∧po.length≤100000
theorem fU (h:kL mo we yd md dy ho mi se po):sC (aG.f (f,iv,ct,un,wk,en,mo,we,yd,md,dy,ho,mi,se,po,())) (qX f mo we yd md dy ho mi se po):=by
 obtain⟨h1,h2,h3,h4,h5,h6,h7,h8,h9⟩:=h;have hD:=gN1 f iv ct un wk en mo we yd md dy ho mi se po (by omega) (by omega) _ 0 rfl (hV1 _) fun j hj=>by omega
 rw[oV1]at hD;have hD2:sC (cB.f (f,iv,ct,un,wk,en,mo,we,yd,md,dy,ho,mi,se,po,())) (dwi dy ∧ ∀j,j<dy.length→numd f we dy j):=by rw[cB.f_eq];exact hD.iff ⟨fun q=>⟨⟨fun j hj=>(q.1 j (hV1 _) hj).1,q.2⟩,fun j hj=>(q.1 j (hV1 _) hj).2⟩,fun q=>⟨fun j _ hj=>⟨q.1.1 j hj,q.2 j hj⟩,q.1.2⟩⟩
 rw[aG.f_eq];exact oF (xF mo 1 12 false (by omega)) (oF (xF we (-53) 53 false (by omega)) (oF (xF yd (-366) 366 false (by omega)) (oF (xF md (-31) 31 false (by omega)) (oF (xF ho 0 23 true (by omega)) (oF (xF mi 0 59 true (by omega)) (oF (xF se 0 59 true (by omega)) (oF (xF po (-366) 366 false (by omega)) (wT hD2))))))))
def numP :Prop:=(1≤f∧f≤7∧1≤iv∧iv≤1000∧0≤ct∧ct≤4096∧0≤wk∧wk≤6)∧(en=true→(-62135596800≤un∧un≤253402300799)∧ct=0)∧(en=false→un=0)
theorem jG1 :sC (nB.f (f,iv,ct,un,wk,en,mo,we,yd,md,dy,ho,mi,se,po,())) (numP f iv ct un wk en):=by
 have l1t:nB.l1 true (f,iv,ct,un,wk,en,mo,we,yd,md,dy,ho,mi,se,po,())=some (false,()):=by rw[nB.l1_eq,cond_true]
 have no:¬(1≤f∧f≤7∧1≤iv∧iv≤1000∧0≤ct∧ct≤4096∧0≤wk∧wk≤6)→sC (some (false,())) (numP f iv ct un wk en):=fun h=>⟨false,rfl,⟨fun q=>by simp at q,fun q=>absurd q.1 h⟩⟩
 rw[nB.f_eq];dsimp only;by_cases c:1≤f∧f≤7∧1≤iv∧iv≤1000∧0≤ct∧ct≤4096∧0≤wk∧wk≤6
 ·obtain⟨c1,c2,c3,c4,c5,c6,c7,c8⟩:=c;simp(disch:=omega)only[ss,nB.l1_eq,qF.f_eq]
  cases en with
  | true=>
   simp(disch:=omega)only[ss];by_cases d1:un ≥ -62135596800
   ·by_cases d2:un≤253402300799
    ·simp(disch:=omega)only[ss];refine⟨_,rfl,?_⟩;rw[decide_eq_true_eq];exact⟨fun q=>⟨⟨c1,c2,c3,c4,c5,c6,c7,c8⟩,fun _=>⟨⟨by omega,d2⟩,q⟩,fun q=>by cases q⟩,fun q=>(q.2.1 rfl).2⟩
    ·simp(disch:=omega)only[ss];exact⟨false,rfl,⟨fun q=>by simp at q,fun q=>by have:=(q.2.1 rfl).1;omega⟩⟩
   ·simp(disch:=omega)only[ss];exact⟨false,rfl,⟨fun q=>by simp at q,fun q=>by have:=(q.2.1 rfl).1;omega⟩⟩
  | false=>
   simp(disch:=omega)only[ss];refine⟨_,rfl,?_⟩;rw[decide_eq_true_eq];exact⟨fun q=>⟨⟨c1,c2,c3,c4,c5,c6,c7,c8⟩,(fun q=>by cases q),fun _=>q⟩,fun q=>q.2.2 rfl⟩
 ·have hb:∀{p:Prop} [Decidable p] {x:Option (Bool×Unit)},(¬p→sC x (numP f iv ct un wk en))→(p→sC (some (false,())) (numP f iv ct un wk en))→sC (bif decide p then(some (false,()))else x) (numP f iv ct un wk en):=fun {p} _ {x} h1 h2=>by
   by_cases hp:p
   ·rw[dp hp,cond_true];exact h2 hp
   ·rw[dn hp,cond_false];exact h1 hp
  have hn:=no c;rw[l1t];refine hb (fun d1=>hb (fun d2=>hb (fun d3=>hb (fun d4=>hb (fun d5=>hb (fun d6=>hb (fun d7=>?_) fun _=>hn) fun _=>hn) fun _=>hn) fun _=>hn) fun _=>hn) fun _=>hn) fun _=>hn
  have:wk>6:=by omega
  rw[dp this,l1t];exact hn
def mayP :Prop:=numP f iv ct un wk en∧qX f mo we yd md dy ho mi se po∧(0<we.length→f=1)∧(0<yd.length → ¬(2≤f∧f≤4))∧(0<md.length→f≠3)
theorem gQ (h:kL mo we yd md dy ho mi se po):Gate (mA.f (f,iv,ct,un,wk,en,mo,we,yd,md,dy,ho,mi,se,po,())) (mayP f iv ct un wk en mo we yd md dy ho mi se po) (mA.l5 (f,iv,ct,un,wk,en,mo,we,yd,md,dy,ho,mi,se,po,())):=by
 have l1t:mA.l1 true (f,iv,ct,un,wk,en,mo,we,yd,md,dy,ho,mi,se,po,())=some (false,()):=by rw[mA.l1_eq,cond_true]
 have l2t:mA.l2 true (f,iv,ct,un,wk,en,mo,we,yd,md,dy,ho,mi,se,po,())=some (false,()):=by rw[mA.l2_eq,cond_true]
 have l3t:mA.l3 true (f,iv,ct,un,wk,en,mo,we,yd,md,dy,ho,mi,se,po,())=some (false,()):=by rw[mA.l3_eq,cond_true]
 have l4t:mA.l4 true (f,iv,ct,un,wk,en,mo,we,yd,md,dy,ho,mi,se,po,())=some (false,()):=by rw[mA.l4_eq,cond_true]
 have l4f:mA.l4 false (f,iv,ct,un,wk,en,mo,we,yd,md,dy,ho,mi,se,po,())=mA.l5 (f,iv,ct,un,wk,en,mo,we,yd,md,dy,ho,mi,se,po,()):=by rw[mA.l4_eq,cond_false]
 have g3:Gate (mA.l3 false (f,iv,ct,un,wk,en,mo,we,yd,md,dy,ho,mi,se,po,())) (0<md.length→f≠3) (mA.l5 (f,iv,ct,un,wk,en,mo,we,yd,md,dy,ho,mi,se,po,())):=by
  rw[mA.l3_eq,cond_false];by_cases c:(md.length:Int)>0
  ·rw[dp c,cond_true];by_cases c2:f=3
   ·rw[dp c2,l4t];exact⟨fun q=>absurd c2 (q (by omega)),fun _=>rfl⟩
   ·rw[dn c2,l4f];exact⟨fun _=>rfl,fun q=>absurd (fun _=>c2) q⟩
  ·rw[dn c,cond_false,l4f];exact⟨fun _=>rfl,fun q=>absurd (fun x=>by omega) q⟩
 have g2:Gate (mA.l2 false (f,iv,ct,un,wk,en,mo,we,yd,md,dy,ho,mi,se,po,())) ((0<yd.length → ¬(2≤f∧f≤4))∧(0<md.length→f≠3)) (mA.l5 (f,iv,ct,un,wk,en,mo,we,yd,md,dy,ho,mi,se,po,())):=by
  rw[mA.l2_eq,cond_false];by_cases c:(yd.length:Int)>0
  ·rw[dp c,cond_true];by_cases c2:f≥2
   ·rw[dp c2,cond_true];by_cases c3:f≤4
    ·rw[dp c3,l3t];exact⟨fun q=>absurd ⟨by omega,c3⟩ (q.1 (by omega)),fun _=>rfl⟩
    ·rw[dn c3];exact g3.iff ⟨fun q=>⟨fun _=>by omega,q⟩,fun q=>q.2⟩
   ·rw[dn c2,cond_false];exact g3.iff ⟨fun q=>⟨fun _=>by omega,q⟩,fun q=>q.2⟩
  ·rw[dn c,cond_false];exact g3.iff ⟨fun q=>⟨fun x=>by omega,q⟩,fun q=>q.2⟩
 have g1:Gate (mA.l1 false (f,iv,ct,un,wk,en,mo,we,yd,md,dy,ho,mi,se,po,())) ((0<we.length→f=1)∧(0<yd.length → ¬(2≤f∧f≤4))∧(0<md.length→f≠3)) (mA.l5 (f,iv,ct,un,wk,en,mo,we,yd,md,dy,ho,mi,se,po,())):=by
  rw[mA.l1_eq,cond_false];by_cases c:(we.length:Int)>0
  ·rw[dp c,cond_true];by_cases c2:f=1
   ·rw[dp c2,jV1];exact g2.iff ⟨fun q=>⟨fun _=>c2,q⟩,fun q=>q.2⟩
   ·rw[dn c2,qW1,l2t];exact⟨fun q=>absurd (q.1 (by omega)) c2,fun _=>rfl⟩
  ·rw[dn c,cond_false];exact g2.iff ⟨fun q=>⟨fun x=>by omega,q⟩,fun q=>q.2⟩
 have hL:Gate ((aG.f (f,iv,ct,un,wk,en,mo,we,yd,md,dy,ho,mi,se,po,())).bind fun t2=>mA.l1 (!t2.1) (f,iv,ct,un,wk,en,mo,we,yd,md,dy,ho,mi,se,po,())) (qX f mo we yd md dy ho mi se po∧(0<we.length→f=1)∧(0<yd.length → ¬(2≤f∧f≤4))∧(0<md.length→f≠3)) (mA.l5 (f,iv,ct,un,wk,en,mo,we,yd,md,dy,ho,mi,se,po,())):=by
  have:=qG (fU f iv ct un wk en mo we yd md dy ho mi se po h) g1;obtain⟨b,h1,_⟩:=fU f iv ct un wk en mo we yd md dy ho mi se po h;rw[h1]at this ⊢;simp only[cV1]at this ⊢
  cases b with
  | true=>exact this
  | false=>rw[qW1,l1t];exact this
 rw[mA.f_eq];have:=qG (jG1 f iv ct un wk en mo we yd md dy ho mi se po) hL;simp only[l1t];exact this
end
theorem eO {K:Option (Bool×Unit)} {p:Prop} (h:¬p):Gate (some (false,())) p K:=⟨fun q=>absurd q h,fun _=>rfl⟩
theorem qS1 (l:List Int) (hi:Int) (z:Bool):wi l 1 hi z↔wi l 1 hi false:=by
 unfold wi;constructor
 ·exact fun h=>⟨fun j hj=>⟨⟨(h.1 j hj).1.1,(h.1 j hj).1.2.1,fun q=>by have:=(h.1 j hj).1.1;omega⟩,(h.1 j hj).2⟩,h.2⟩
 ·exact fun h=>⟨fun j hj=>⟨⟨(h.1 j hj).1.1,(h.1 j hj).1.2.1,fun q=>by have:=(h.1 j hj).1.1;omega⟩,(h.1 j hj).2⟩,h.2⟩
section
variable (f iv ct un wk : Int) (en : Bool) (mo we yd md : List Int) (dy : List Dy) (ho mi se po : List Int)
theorem lU1 (h:kL mo we yd md dy ho mi se po):Gate (bA.f (f,iv,ct,un,wk,en,mo,we,yd,md,dy,ho,mi,se,po,())) (mayP f iv ct un wk en mo we yd md dy ho mi se po) (bA.l8 (f,iv,ct,un,wk,en,mo,we,yd,md,dy,ho,mi,se,po,())):=by
 obtain⟨h1,h2,h3,h4,h5,h6,h7,h8,h9⟩:=h;have l1t:bA.l1 true (f,iv,ct,un,wk,en,mo,we,yd,md,dy,ho,mi,se,po,())=some (false,()):=by rw[bA.l1_eq,cond_true]
 have l2t:bA.l2 true (f,iv,ct,un,wk,en,mo,we,yd,md,dy,ho,mi,se,po,())=some (false,()):=by rw[bA.l2_eq,cond_true]
 have l2f:bA.l2 false (f,iv,ct,un,wk,en,mo,we,yd,md,dy,ho,mi,se,po,())=bA.l3 (f,iv,ct,un,wk,en,mo,we,yd,md,dy,ho,mi,se,po,()):=by rw[bA.l2_eq,cond_false]
 have l4t:bA.l4 true (f,iv,ct,un,wk,en,mo,we,yd,md,dy,ho,mi,se,po,())=some (false,()):=by rw[bA.l4_eq,cond_true]
 have l5t:bA.l5 true (f,iv,ct,un,wk,en,mo,we,yd,md,dy,ho,mi,se,po,())=some (false,()):=by rw[bA.l5_eq,cond_true]
 have l5f:bA.l5 false (f,iv,ct,un,wk,en,mo,we,yd,md,dy,ho,mi,se,po,())=bA.l6 (f,iv,ct,un,wk,en,mo,we,yd,md,dy,ho,mi,se,po,()):=by rw[bA.l5_eq,cond_false]
 have l7t:bA.l7 true (f,iv,ct,un,wk,en,mo,we,yd,md,dy,ho,mi,se,po,())=some (false,()):=by rw[bA.l7_eq,cond_true]
 have l7f:bA.l7 false (f,iv,ct,un,wk,en,mo,we,yd,md,dy,ho,mi,se,po,())=bA.l8 (f,iv,ct,un,wk,en,mo,we,yd,md,dy,ho,mi,se,po,()):=by rw[bA.l7_eq,cond_false]
 have g6:Gate (bA.l6 (f,iv,ct,un,wk,en,mo,we,yd,md,dy,ho,mi,se,po,())) (∀j,j<dy.length→numd f we dy j) (bA.l8 (f,iv,ct,un,wk,en,mo,we,yd,md,dy,ho,mi,se,po,())):=by
  rw[bA.l6_eq];obtain⟨b,e1,e2⟩:=yE1 dy (by omega);rw[e1];simp only[cV1]
  cases b with
  | false=>
   rw[cond_false,l7f];have:∀j,j<dy.length→numd f we dy j:=fun j hj hn=>absurd (e2.2 ⟨j,hj,hn⟩) (by simp)
   exact⟨fun _=>rfl,fun q=>absurd this q⟩
  | true=>
   obtain⟨j,hj,hn⟩:=e2.1 rfl;rw[cond_true];by_cases c2:f=2
   ·simp(disch:=omega)only[ss,l7f];exact⟨fun _=>rfl,fun q=>absurd (fun _ _ _=>.inl c2) q⟩
   ·by_cases c3:f=1
    ·by_cases c4:(we.length:Int)>0
     ·simp(disch:=omega)only[ss,l7t];exact eO fun q=>by rcases q j hj hn with q | q <;> omega
     ·simp(disch:=omega)only[ss,l7f];exact⟨fun _=>rfl,fun q=>absurd (fun _ _ _=>.inr ⟨c3,by omega⟩) q⟩
    ·simp(disch:=omega)only[ss,l7t];exact eO fun q=>by rcases q j hj hn with q | q <;> omega
 have g4:Gate (bA.l4 false (f,iv,ct,un,wk,en,mo,we,yd,md,dy,ho,mi,se,po,())) (((0<we.length→f=1)∧(0<yd.length → ¬(2≤f∧f≤4))∧(0<md.length→f≠3)) ∧ ∀j,j<dy.length→numd f we dy j) (bA.l8 (f,iv,ct,un,wk,en,mo,we,yd,md,dy,ho,mi,se,po,())):=by
  have hm:((0<we.length→f=1)∧(0<yd.length → ¬(2≤f∧f≤4)))→Gate (bif decide ((md.length:Int)>0)then(bA.l5 (decide (f=3)) (f,iv,ct,un,wk,en,mo,we,yd,md,dy,ho,mi,se,po,()))else(bA.l5 false (f,iv,ct,un,wk,en,mo,we,yd,md,dy,ho,mi,se,po,()))) (((0<we.length→f=1)∧(0<yd.length → ¬(2≤f∧f≤4))∧(0<md.length→f≠3)) ∧ ∀j,j<dy.length→numd f we dy j) (bA.l8 (f,iv,ct,un,wk,en,mo,we,yd,md,dy,ho,mi,se,po,())):=fun hh=>by
   by_cases c:(md.length:Int)>0
   ·rw[dp c,cond_true];by_cases c2:f=3
    ·rw[dp c2,l5t];exact eO fun q=>q.1.2.2 (by omega) c2
    ·rw[dn c2,l5f];exact g6.iff ⟨fun q=>⟨⟨hh.1,hh.2,fun _=>c2⟩,q⟩,fun q=>q.2⟩
   ·rw[dn c,cond_false,l5f];exact g6.iff ⟨fun q=>⟨⟨hh.1,hh.2,fun x=>by omega⟩,q⟩,fun q=>q.2⟩
  have hy:(0<we.length→f=1)→Gate (bif decide ((yd.length:Int)>0)then(bif decide (f≥2)then(bif decide (f≤4)then(bA.l5 true (f,iv,ct,un,wk,en,mo,we,yd,md,dy,ho,mi,se,po,()))else(bif decide ((md.length:Int)>0)then(bA.l5 (decide (f=3)) (f,iv,ct,un,wk,en,mo,we,yd,md,dy,ho,mi,se,po,()))else(bA.l5 false (f,iv,ct,un,wk,en,mo,we,yd,md,dy,ho,mi,se,po,()))))else(bif decide ((md.length:Int)>0)then(bA.l5 (decide (f=3)) (f,iv,ct,un,wk,en,mo,we,yd,md,dy,ho,mi,se,po,()))else(bA.l5 false (f,iv,ct,un,wk,en,mo,we,yd,md,dy,ho,mi,se,po,()))))else(bif decide ((md.length:Int)>0)then(bA.l5 (decide (f=3)) (f,iv,ct,un,wk,en,mo,we,yd,md,dy,ho,mi,se,po,()))else(bA.l5 false (f,iv,ct,un,wk,en,mo,we,yd,md,dy,ho,mi,se,po,())))) (((0<we.length→f=1)∧(0<yd.length → ¬(2≤f∧f≤4))∧(0<md.length→f≠3)) ∧ ∀j,j<dy.length→numd f we dy j) (bA.l8 (f,iv,ct,un,wk,en,mo,we,yd,md,dy,ho,mi,se,po,())):=fun hh=>by
   by_cases c:(yd.length:Int)>0
   ·rw[dp c,cond_true];by_cases c2:f≥2
    ·rw[dp c2,cond_true];by_cases c3:f≤4
     ·rw[dp c3,cond_true,l5t];exact eO fun q=>q.1.2.1 (by omega) ⟨by omega,c3⟩
     ·rw[dn c3,cond_false];exact hm ⟨hh,fun _=>by omega⟩
    ·rw[dn c2,cond_false];exact hm ⟨hh,fun _=>by omega⟩
   ·rw[dn c,cond_false];exact hm ⟨hh,fun x=>by omega⟩
  rw[bA.l4_eq,cond_false];by_cases c:(we.length:Int)>0
  ·rw[dp c,cond_true];by_cases c2:f=1
   ·rw[dp c2,jV1,cond_false];exact hy fun _=>c2
   ·rw[dn c2,qW1,cond_true,l5t];exact eO fun q=>c2 (q.1.1 (by omega))
  ·rw[dn c,cond_false];exact hy fun x=>by omega
 have g3:Gate (bA.l3 (f,iv,ct,un,wk,en,mo,we,yd,md,dy,ho,mi,se,po,())) (wi mo 1 12 true∧wi we (-53) 53 false∧wi yd (-366) 366 false∧wi md (-31) 31 false∧wi po (-366) 366 false∧wi ho 0 23 true∧wi mi 0 59 true∧wi se 0 59 true∧dwi dy∧(((0<we.length→f=1)∧(0<yd.length → ¬(2≤f∧f≤4))∧(0<md.length→f≠3)) ∧ ∀j,j<dy.length→numd f we dy j)) (bA.l8 (f,iv,ct,un,wk,en,mo,we,yd,md,dy,ho,mi,se,po,())):=by
  have hlast:∀{q:Prop},Gate (bA.l4 false (f,iv,ct,un,wk,en,mo,we,yd,md,dy,ho,mi,se,po,())) q (bA.l8 (f,iv,ct,un,wk,en,mo,we,yd,md,dy,ho,mi,se,po,()))→Gate ((aB.f dy).bind fun t10=>bA.l4 (!t10.1) (f,iv,ct,un,wk,en,mo,we,yd,md,dy,ho,mi,se,po,())) (dwi dy∧q) (bA.l8 (f,iv,ct,un,wk,en,mo,we,yd,md,dy,ho,mi,se,po,())):=fun {q} hq=>by
   have:=qG (xD1 dy (by omega)) hq;obtain⟨b,e1,_⟩:=xD1 dy (by omega);rw[e1]at this ⊢;simp only[cV1]at this ⊢
   cases b with
   | true=>exact this
   | false=>rw[qW1,l4t];exact this
  rw[bA.l3_eq];simp only[l4t];exact qG (eF mo 1 12 true (by omega)) (qG (eF we (-53) 53 false (by omega)) (qG (eF yd (-366) 366 false (by omega)) (qG (eF md (-31) 31 false (by omega)) (qG (eF po (-366) 366 false (by omega)) (qG (eF ho 0 23 true (by omega)) (qG (eF mi 0 59 true (by omega)) (qG (eF se 0 59 true (by omega)) (hlast g4))))))))
 have g3':=g3.iff (q:=qX f mo we yd md dy ho mi se po∧(0<we.length→f=1)∧(0<yd.length → ¬(2≤f∧f≤4))∧(0<md.length→f≠3)) (by
  rw[qS1 mo 12 true];unfold qX;constructor
  ·rintro⟨a1,a2,a3,a4,a5,a6,a7,a8,a9,a10,a11⟩;exact⟨⟨a1,a2,a3,a4,a6,a7,a8,a5,a9,a11⟩,a10⟩
  ·rintro⟨⟨a1,a2,a3,a4,a6,a7,a8,a5,a9,a11⟩,a10⟩
   exact⟨a1,a2,a3,a4,a5,a6,a7,a8,a9,a10,a11⟩)
 have no:¬numP f iv ct un wk en→Gate (some (false,())) (mayP f iv ct un wk en mo we yd md dy ho mi se po) (bA.l8 (f,iv,ct,un,wk,en,mo,we,yd,md,dy,ho,mi,se,po,())):=fun hn=>eO fun q=>hn q.1
 have yes:numP f iv ct un wk en→Gate (bA.l3 (f,iv,ct,un,wk,en,mo,we,yd,md,dy,ho,mi,se,po,())) (mayP f iv ct un wk en mo we yd md dy ho mi se po) (bA.l8 (f,iv,ct,un,wk,en,mo,we,yd,md,dy,ho,mi,se,po,())):=fun hn=>g3'.iff ⟨fun q=>⟨hn,q⟩,fun q=>q.2⟩
 rw[bA.f_eq];dsimp only;by_cases c:1≤f∧f≤7∧1≤iv∧iv≤1000∧0≤ct∧ct≤4096∧0≤wk∧wk≤6
 ·have c':=c;obtain⟨c1,c2,c3,c4,c5,c6,c7,c8⟩:=c;simp(disch:=omega)only[ss,bA.l1_eq,gE.f_eq]
  cases en with
  | true=>
   simp(disch:=omega)only[ss];by_cases d0:ct>0
   ·simp(disch:=omega)only[ss,l2t];exact no fun q=>by have:=(q.2.1 rfl).2;omega
   ·by_cases d1:un ≥ -62135596800
    ·by_cases d2:un<253402300800
     ·simp(disch:=omega)only[ss,l2f];exact yes ⟨c',fun _=>⟨⟨by omega,by omega⟩,by omega⟩,fun q=>by cases q⟩
     ·simp(disch:=omega)only[ss,l2t];exact no fun q=>by have:=(q.2.1 rfl).1;omega
    ·simp(disch:=omega)only[ss,l2t];exact no fun q=>by have:=(q.2.1 rfl).1;omega
  | false=>
   by_cases d0:un=0
   ·simp(disch:=omega)only[ss,l2f];exact yes ⟨c',(fun q=>by cases q),fun _=>d0⟩
   ·simp(disch:=omega)only[ss,l2t];exact no fun q=>d0 (q.2.2 rfl)
 ·have hn:=no fun q=>c q.1
  have hb:∀{p:Prop} [Decidable p] {x:Option (Bool×Unit)},(¬p→Gate x (mayP f iv ct un wk en mo we yd md dy ho mi se po) (bA.l8 (f,iv,ct,un,wk,en,mo,we,yd,md,dy,ho,mi,se,po,())))→Gate (bif decide p then(some (false,()))else x) (mayP f iv ct un wk en mo we yd md dy ho mi se po) (bA.l8 (f,iv,ct,un,wk,en,mo,we,yd,md,dy,ho,mi,se,po,())):=fun {p} _ {x} h1=>by
   by_cases hp:p
   ·rw[dp hp,cond_true];exact hn
   ·rw[dn hp,cond_false];exact h1 hp
  rw[l1t];refine hb fun d1=>hb fun d2=>hb fun d3=>hb fun d4=>hb fun d5=>hb fun d6=>hb fun d7=>?_
  have:wk>6:=by omega
  rw[dp this,l1t];exact hn
theorem xG1 :mA.l5 (f,iv,ct,un,wk,en,mo,we,yd,md,dy,ho,mi,se,po,())=bA.l8 (f,iv,ct,un,wk,en,mo,we,yd,md,dy,ho,mi,se,po,()):=by
 have e7:mA.l7 (f,iv,ct,un,wk,en,mo,we,yd,md,dy,ho,mi,se,po,())=bA.l10 (f,iv,ct,un,wk,en,mo,we,yd,md,dy,ho,mi,se,po,()):=by rw[mA.l7_eq,bA.l10_eq]
 have e6:∀b,mA.l6 b (f,iv,ct,un,wk,en,mo,we,yd,md,dy,ho,mi,se,po,())=bA.l9 b (f,iv,ct,un,wk,en,mo,we,yd,md,dy,ho,mi,se,po,()):=fun b=>by rw[mA.l6_eq,bA.l9_eq,e7]
 rw[mA.l5_eq,bA.l8_eq,e6,e6]
end
theorem wQ (r:Rl) (h:kL r.2.2.2.2.2.2.1 r.2.2.2.2.2.2.2.1 r.2.2.2.2.2.2.2.2.1 r.2.2.2.2.2.2.2.2.2.1 r.2.2.2.2.2.2.2.2.2.2.1 r.2.2.2.2.2.2.2.2.2.2.2.1 r.2.2.2.2.2.2.2.2.2.2.2.2.1 r.2.2.2.2.2.2.2.2.2.2.2.2.2.1 r.2.2.2.2.2.2.2.2.2.2.2.2.2.2.1):mA.f r=bA.f r:=by obtain⟨f,iv,ct,un,wk,en,mo,we,yd,md,dy,ho,mi,se,po,⟨⟩⟩:=r;have g1:=gQ f iv ct un wk en mo we yd md dy ho mi se po h;rw[xG1]at g1;exact g1.eq (lU1 f iv ct un wk en mo we yd md dy ho mi se po h)
theorem sQ (r:Rl) (h:kL r.2.2.2.2.2.2.1 r.2.2.2.2.2.2.2.1 r.2.2.2.2.2.2.2.2.1 r.2.2.2.2.2.2.2.2.2.1 r.2.2.2.2.2.2.2.2.2.2.1 r.2.2.2.2.2.2.2.2.2.2.2.1 r.2.2.2.2.2.2.2.2.2.2.2.2.1 r.2.2.2.2.2.2.2.2.2.2.2.2.2.1 r.2.2.2.2.2.2.2.2.2.2.2.2.2.2.1):∃b,mA.f r=some (b,()):=by
 obtain⟨f,iv,ct,un,wk,en,mo,we,yd,md,dy,ho,mi,se,po,⟨⟩⟩:=r;have g1:=gQ f iv ct un wk en mo we yd md dy ho mi se po h;by_cases hp:mayP f iv ct un wk en mo we yd md dy ho mi se po
 ·rw[g1.1 hp,mA.l5_eq];have e7:∃b,mA.l7 (f,iv,ct,un,wk,en,mo,we,yd,md,dy,ho,mi,se,po,())=some (b,()):=by
   rw[mA.l7_eq];cases decide (f>4)with
   | true=>exact⟨_,rfl⟩
   | false=>exact⟨_,rfl⟩
  have e6:∀c,∃b,mA.l6 c (f,iv,ct,un,wk,en,mo,we,yd,md,dy,ho,mi,se,po,())=some (b,()):=fun c=>by
   rw[mA.l6_eq]
   cases c with
   | true=>exact⟨_,rfl⟩
   | false=>exact e7
  cases decide ((po.length:Int)>0)with
  | true=>exact e6 _
  | false=>exact e6 _
 ·exact⟨false,g1.2 hp⟩
theorem vL1 (l:List Int) (x:Int) (hl:l.length≤1000000):∀(k i:Nat),l.length-i=k→i≤l.length → ∃n:Int,pB.l1 l x l.length i=some (n,())∧(n≥0↔x∈l.drop i):=by
 intro k
 induction k with
 | zero=>
  intro i hk hil;refine⟨-1,?_,?_⟩
  ·rw[pB.l1_eq];simp(disch:=omega)only[ss]
  ·rw[List.drop_eq_nil_of_le (by omega)];simp
 | succ k ih=>
  intro i hk hil;have hlt:i<l.length:=by omega
  rw[pB.l1_eq,tB 0 hlt];by_cases c:x=l.getD i 0
  ·refine⟨i,?_,?_⟩
   ·simp(disch:=omega)only[ss]
   ·exact⟨fun _=>by rw[c];exact fV1 ..,fun _=>by omega⟩
  ·obtain⟨n,h1,h2⟩:=ih (i+1) (by omega) (by omega);rw[pV1,qV1]at h1;refine⟨n,?_,?_⟩
   ·simp(disch:=omega)only[ss,h1]
   ·rw[h2,kV1];exact⟨.inr,fun h=>h.resolve_left c⟩
theorem tE (l:List Int) (x:Int) (hl:l.length≤1000000):mB.f l x=some (decide (x∈l),()):=by obtain⟨n,h1,h2⟩:=vL1 l x hl _ 0 rfl (hV1 _);rw[oV1]at h1;rw[fW1]at h2;rw[mB.f_eq,pB.f_eq,h1];simp only[cV1];rw[decide_eq_decide.2 h2]
theorem sN (l:List Int) (x:Int) (hl:l.length≤1000000):vC.f l x=some (decide (x∈l),()):=by
 have key:∀(k i:Nat),l.length-i=k→i≤l.length→vC.l1 l x i=some (decide (x∈l.drop i),()):=by
  intro k
  induction k with
  | zero=>
   intro i hk hil;rw[vC.l1_eq,List.drop_eq_nil_of_le (by omega)];simp(disch:=omega)only[ss];rfl
  | succ k ih=>
   intro i hk hil;have hlt:i<l.length:=by omega
   have:=ih (i+1) (by omega) (by omega);rw[pV1,qV1]at this;rw[vC.l1_eq,tB 0 hlt];by_cases c:l.getD i 0=x
   ·rw[dp (show x∈l.getD i 0::l.drop (i+1) by rw[c];exact fV1 ..)];simp(disch:=omega)only[ss]
   ·have e:decide (x∈l.getD i 0::l.drop (i+1))=decide (x∈l.drop (i+1)):=decide_eq_decide.2 (by rw[kV1];exact⟨fun h=>h.resolve_left fun q=>c q.symm,.inr⟩);rw[e];simp(disch:=omega)only[ss,this]
 have:=key _ 0 rfl (hV1 _);rw[oV1,fW1]at this;rw[vC.f_eq];exact this
def hasP (l:List Int) (n all:Int):Prop:=l=[]∨n∈l∨n-all-1∈l
theorem sR (l:List Int) (n all:Int) (hl:l.length≤1000000) (hn:0≤n∧n≤1000) (ha:0≤all∧all≤1000):sC (qK.f l n all) (hasP l n all):=by
 unfold hasP;rw[qK.f_eq];by_cases c:l=[]
 ·subst c;rw[List.length_nil];exact⟨true,by simp(disch:=omega)only[ss],by simp⟩
 ·have hp:¬(l.length:Int)=0:=by have:=List.length_pos_iff.2 c;omega
  by_cases c1:n∈l
  ·exact⟨true,by simp(disch:=omega)only[ss,tE l n hl,dp c1],by simp[c1]⟩
  ·refine⟨decide (n-all-1∈l),?_,?_⟩
   ·simp(disch:=omega)only[ss,tE l _ hl,dn c1]
   ·rw[decide_eq_true_iff];simp[c,c1]
theorem lR (y:Int) (hy:0≤y):fE.f y=some (cum y 13,()):=by
 rw[fE.f_eq,fS y hy];have h3:(3:Int)≤13:=by omega
 unfold cum cumT
 cases rI y with
 | true=>simp
 | false=>simp
theorem xW (n y m d:Int) (e:uA.f n=some (y,m,d,0,())):hJ.f n=some ((n,y,m,d,wk n,()),true,()):=by rw[hJ.f_eq,e];simp only[cV1];rw[vH];rfl
theorem xP1 (n:Int) (h:¬(-719162≤n∧n≤2932896)):hJ.f n=some ((n,0,0,0,wk n,()),false,()):=by rw[hJ.f_eq,(cL1 n h).1];simp only[cV1];rw[vH];rfl
def wdP (f:Int) (mo:List Int) (dy:List Dy) (n y m d:Int):Prop:=
 dy=[] ∨ ∃x∈dy,x.2.1=wk n∧(x.1=0∨x.1=((if f=2∨mo≠[]then d else n-fst_ y+1)-1)/7+1∨x.1 = -(((if f=2∨mo≠[]then mlen y m else cum y 13)-(if f=2∨mo≠[]then d else n-fst_ y+1))/7+1))
theorem vK1 (fr bk n y m d:Int) (l:List Dy) (hl:l.length≤1000000):∀(k i:Nat),l.length-i=k→i≤l.length →
  sC (pA.l3 fr bk l l.length i (n,y,m,d,wk n,())) (∃x∈l.drop i,x.2.1=wk n∧(x.1=0∨x.1=fr∨x.1=bk)):=by
 intro k
 induction k with
 | zero=>
  intro i hk hil;rw[pA.l3_eq,List.drop_eq_nil_of_le (by omega)];exact⟨false,by simp(disch:=omega)only[ss],by simp⟩
 | succ k ih=>
  intro i hk hil;have hlt:i<l.length:=by omega
  obtain⟨b,h1,h2⟩:=ih (i+1) (by omega) (by omega);rw[pV1,qV1]at h1;rw[pA.l3_eq,tB ((0,0,()):Dy) hlt];generalize hx:l.getD i ((0,0,()):Dy)=x;have hx':l.getD i ((0,0,()):Int×Int×Unit)=x:=hx;by_cases c:x.2.1=wk n∧(x.1=0∨x.1=fr∨x.1=bk)
  ·refine⟨true,?_,by simp only[true_iff];exact⟨x,fV1 ..,c⟩⟩;obtain⟨c1,c2⟩:=c;by_cases d0:x.1=0
   ·simp(disch:=omega)only[ss,hx',pA.l4_eq]
   ·by_cases d1:x.1=fr
    ·simp(disch:=omega)only[ss,hx',pA.l4_eq]
    ·have d2:x.1=bk:=by omega
     simp(disch:=omega)only[ss,hx',pA.l4_eq]
  ·refine⟨b,?_,?_⟩
   ·by_cases c1:x.2.1=wk n
    ·have d0:¬x.1=0:=fun q=>c ⟨c1,.inl q⟩
     have d1:¬x.1=fr:=fun q=>c ⟨c1,.inr (.inl q)⟩
     have d2:¬x.1=bk:=fun q=>c ⟨c1,.inr (.inr q)⟩
     simp(disch:=omega)only[ss,hx',pA.l4_eq,h1]
    ·simp(disch:=omega)only[ss,hx',pA.l4_eq,h1]
   ·rw[h2];constructor
    ·rintro⟨z,hz,h⟩;exact⟨z,eV1 _ hz,h⟩
    ·rintro⟨z,hz,h⟩;rcases kV1.1 hz with e | hz
     ·exact absurd (e ▸ h) c
     ·exact⟨z,hz,h⟩
section
variable (f iv ct un wkst : Int) (en : Bool) (mo we yd md : List Int) (dy : List Dy) (ho mi se po : List Int)
theorem mG1 (n y m d:Int) (hs:mo.length≤100000∧dy.length≤100000) (h:uG n y m d) (e:uA.f n=some (y,m,d,0,())):
  sC (pA.f (f,iv,ct,un,wkst,en,mo,we,yd,md,dy,ho,mi,se,po,()) (n,y,m,d,wk n,())) (wdP f mo dy n y m d):=by
 obtain⟨q1,q2,q3,q4,q5,q6⟩:=wE h;obtain⟨v1,v2,v3,v4⟩:=pC.1 h.1;have hy:=wG y (by omega);have h13:=zX y;have hs13:=dG y v1;have hml:=gK y m;have hl0:=vK1;unfold wdP;rw[pA.f_eq];by_cases c:dy=[]
 ·subst c;exact⟨true,by simp(disch:=omega)only[ss,List.length_nil],by simp⟩
 ·have hp:¬(dy.length:Int)=0:=by have:=List.length_pos_iff.2 c;omega
  have go:∀at_ all:Int,1≤at_→at_≤all→all≤400→sC (pA.l2 at_ all (f,iv,ct,un,wkst,en,mo,we,yd,md,dy,ho,mi,se,po,()) (n,y,m,d,wk n,())) (∃x∈dy,x.2.1=wk n∧(x.1=0∨x.1=(at_-1)/7+1∨x.1 = -((all-at_)/7+1))):=fun at_ all a1 a2 a3=>by
   have:=vK1 ((at_-1)/7+1) (-((all-at_)/7+1)) n y m d dy (by omega) _ 0 rfl (hV1 _);rw[oV1,fW1]at this;have e0:0-((all-at_)/7+1) = -((all-at_)/7+1):=by omega
   rw[pA.l2_eq];simp(disch:=omega)only[ss,tdn (show(0:Int)≤at_-1 by omega),tdn (show(0:Int)≤all-at_ by omega),e0];exact this
  have e1:=pP n y m d h e;have e2:=lR y (by omega);have e3:=gH y m (by omega);by_cases c2:f=2∨mo≠[]
  ·have l1:pA.l1 (n-fst_ y+1) (cum y 13) true (f,iv,ct,un,wkst,en,mo,we,yd,md,dy,ho,mi,se,po,()) (n,y,m,d,wk n,())=pA.l2 d (mlen y m) (f,iv,ct,un,wkst,en,mo,we,yd,md,dy,ho,mi,se,po,()) (n,y,m,d,wk n,()):=by rw[pA.l1_eq];simp(disch:=omega)only[ss,e3]
   rw[if_pos c2,if_pos c2];have g:=go d (mlen y m) v3 v4 (by omega);have hc:(dy=[] ∨ ∃x∈dy,x.2.1=wk n∧(x.1=0∨x.1=(d-1)/7+1∨x.1 = -((mlen y m-d)/7+1)))↔(∃x∈dy,x.2.1=wk n∧(x.1=0∨x.1=(d-1)/7+1∨x.1 = -((mlen y m-d)/7+1))):=⟨fun h=>h.resolve_left c,.inr⟩
   refine sC.iff ?_ hc.symm;by_cases c3:f=2
   ·simp(disch:=omega)only[ss,e1,e2,l1];exact g
   ·have hm:mo≠[]:=c2.resolve_left c3;have hmp:(mo.length:Int)>0:=by have:=List.length_pos_iff.2 hm;omega
    simp(disch:=omega)only[ss,e1,e2,l1];exact g
  ·rw[if_neg c2,if_neg c2];have c3:¬f=2:=fun q=>c2 (.inl q)
   have c4:mo=[]:=Classical.byContradiction fun q=>c2 (.inr q)
   subst c4;have l1:pA.l1 (n-fst_ y+1) (cum y 13) false (f,iv,ct,un,wkst,en,[],we,yd,md,dy,ho,mi,se,po,()) (n,y,m,d,wk n,())=pA.l2 (n-fst_ y+1) (cum y 13) (f,iv,ct,un,wkst,en,[],we,yd,md,dy,ho,mi,se,po,()) (n,y,m,d,wk n,()):=by rw[pA.l1_eq,cond_false]
   have g:=go (n-fst_ y+1) (cum y 13) (by omega) (by omega) (by omega);have hc:(dy=[] ∨ ∃x∈dy,x.2.1=wk n∧(x.1=0∨x.1=(n-fst_ y+1-1)/7+1∨x.1 = -((cum y 13-(n-fst_ y+1))/7+1)))↔(∃x∈dy,x.2.1=wk n∧(x.1=0∨x.1=(n-fst_ y+1-1)/7+1∨x.1 = -((cum y 13-(n-fst_ y+1))/7+1))):=⟨fun h=>h.resolve_left c,.inr⟩
   refine sC.iff ?_ hc.symm;have hnil:(([]:List Int).length:Int)=0:=rfl;simp(disch:=omega)only[ss,e1,e2,hnil,l1];exact g
def stP (m0 d0 w0 n m d:Int):Prop:=(yd≠[]∨md≠[]∨dy≠[])∨((we≠[]∧wk n=w0)∨(we=[]∧((f=1∧d=d0∧(mo≠[]∨m=m0))∨(f=2∧d=d0)∨(f=3∧wk n=w0)∨(f≠1∧f≠2∧f≠3))))
theorem lE {α:Type} {l:List α}:l≠[]↔(l.length:Int)>0:=by rw[←List.length_pos_iff];omega
theorem hF1 (s sec n0 y0 m0 d0 w0 n y m d:Int) (hs:mo.length≤100000∧we.length≤100000∧yd.length≤100000∧md.length≤100000∧dy.length≤100000):
  sC (iE.f ((f,iv,ct,un,wkst,en,mo,we,yd,md,dy,ho,mi,se,po,()),s,(n0,y0,m0,d0,w0,()),sec,()) (n,y,m,d,wk n,())) (stP f mo we yd md dy m0 d0 w0 n m d):=by
 unfold stP;rw[iE.f_eq];by_cases c:yd≠[]∨md≠[]∨dy≠[]
 ·have hp:(yd.length:Int)+(md.length:Int)+(dy.length:Int)>0:=by rw[lE,lE,lE]at c;omega
  exact⟨true,by simp(disch:=omega)only[ss],by simp[c]⟩
 ·have hp:¬(yd.length:Int)+(md.length:Int)+(dy.length:Int)>0:=by rw[lE,lE,lE]at c;omega
  by_cases c1:we=[]
  ·subst c1;have hnil:(([]:List Int).length:Int)=0:=rfl;by_cases f1:f=1
   ·subst f1;by_cases dd:d=d0
    ·by_cases mm_:mo=[]
     ·subst mm_;refine⟨decide (m=m0),by simp(disch:=omega)only[ss,hnil],?_⟩;rw[decide_eq_true_iff];simp[c,dd]
     ·have hmp:(mo.length:Int)>0:=lE.1 mm_;exact⟨true,by simp(disch:=omega)only[ss,hnil],by simp[dd,mm_]⟩
    ·exact⟨false,by simp(disch:=omega)only[ss,hnil],by simp[c,dd]⟩
   ·by_cases f2:f=2
    ·subst f2;refine⟨decide (d=d0),by simp(disch:=omega)only[ss,hnil],?_⟩;rw[decide_eq_true_iff];simp[c]
    ·by_cases f3:f=3
     ·subst f3;refine⟨decide (wk n=w0),by simp(disch:=omega)only[ss,hnil],?_⟩;rw[decide_eq_true_iff];simp[c]
     ·exact⟨true,by simp(disch:=omega)only[ss,hnil],by simp[f1,f2,f3]⟩
  ·have hwp:(we.length:Int)>0:=lE.1 c1;refine⟨decide (wk n=w0),by simp(disch:=omega)only[ss],?_⟩;rw[decide_eq_true_iff];simp[c,c1]
def wkP (n:Int):Prop:=we=[] ∨ ∃Y k,rU n wkst Y k∧1≤Y∧Y≤9999∧hasP we k (wks Y wkst)
theorem nG1 (n y m d:Int) (hs:we.length≤100000) (h:uG n y m d) (hw:0≤wkst∧wkst≤6):
  sC (tG.f (f,iv,ct,un,wkst,en,mo,we,yd,md,dy,ho,mi,se,po,()) (n,y,m,d,wk n,())) (wkP wkst we n):=by
 obtain⟨q1,q2,q3,q4,q5,q6⟩:=wE h;unfold wkP;rw[tG.f_eq];by_cases c:we=[]
 ·subst c;exact⟨true,by simp(disch:=omega)only[ss,List.length_nil],by simp⟩
 ·have hwp:(we.length:Int)>0:=lE.1 c;obtain⟨Y,k,w1_,w2,w3,w4,w5,w6,_⟩:=eN n wkst q5 q6 hw.1 hw.2;have hW:=aF1 Y wkst;by_cases cY:1≤Y∧Y≤9999
  ·rw[if_pos ⟨cY,hw⟩]at hW;have hb:=vF1 Y wkst (by omega);obtain⟨b,h1,h2⟩:=sR we k (wks Y wkst) (by omega) (by omega) (by omega);refine⟨b,by simp(disch:=omega)only[ss,w6,hW,h1],?_⟩;rw[h2];constructor
   ·exact fun h=>.inr ⟨Y,k,w1_,cY.1,cY.2,h⟩
   ·rintro(q | ⟨Y',k',x1,x2,x3,x4⟩)
    ·exact absurd q c
    ·obtain⟨e1,e2⟩:=jJ w2 (by omega) w1_ x1;rw[e1,e2];exact x4
  ·rw[if_neg fun q=>cY q.1]at hW;refine⟨false,by simp(disch:=omega)only[ss,w6,hW],?_⟩;simp only[hW1,false_iff];rintro(q | ⟨Y',k',x1,x2,x3,_⟩)
   ·exact c q
   ·obtain⟨e1,_⟩:=jJ w2 (by omega) w1_ x1;exact cY (by omega)
end
def mG (r:Rl):Prop:=kL r.2.2.2.2.2.2.1 r.2.2.2.2.2.2.2.1 r.2.2.2.2.2.2.2.2.1 r.2.2.2.2.2.2.2.2.2.1 r.2.2.2.2.2.2.2.2.2.2.1 r.2.2.2.2.2.2.2.2.2.2.2.1 r.2.2.2.2.2.2.2.2.2.2.2.2.1 r.2.2.2.2.2.2.2.2.2.2.2.2.2.1 r.2.2.2.2.2.2.2.2.2.2.2.2.2.2.1
theorem yI {p:Prop} [Decidable p] {X:Option (Bool×Unit)} {Q:Prop} (h:p → ∃b,X=some (b,())∧(b=true→Q)):∃b,(bif decide p then X else some (false,()))=some (b,())∧(b=true→Q):=by
 by_cases c:p
 ·rw[dp c];exact h c
 ·rw[dn c];exact⟨false,rfl,fun q=>by cases q⟩
theorem dN1 (r:Rl):∃b,rF.f r=some (b,())∧(b=true→mG r):=by
 rw[rF.f_eq];refine yI fun h1=>yI fun h2=>yI fun h3=>yI fun h4=>yI fun h5=>yI fun h6=>yI fun h7=>yI fun h8=>⟨_,rfl,fun h9=>?_⟩
 rw[decide_eq_true_iff]at h9;unfold mG kL;omega
theorem uQ1 {r:Rl} (hs:mG r) (hM:mA.f r=some (true,())):mayP r.1 r.2.1 r.2.2.1 r.2.2.2.1 r.2.2.2.2.1 r.2.2.2.2.2.1 r.2.2.2.2.2.2.1 r.2.2.2.2.2.2.2.1 r.2.2.2.2.2.2.2.2.1 r.2.2.2.2.2.2.2.2.2.1 r.2.2.2.2.2.2.2.2.2.2.1 r.2.2.2.2.2.2.2.2.2.2.2.1 r.2.2.2.2.2.2.2.2.2.2.2.2.1 r.2.2.2.2.2.2.2.2.2.2.2.2.2.1 r.2.2.2.2.2.2.2.2.2.2.2.2.2.2.1:=by
 have g:=gQ r.1 r.2.1 r.2.2.1 r.2.2.2.1 r.2.2.2.2.1 r.2.2.2.2.2.1 r.2.2.2.2.2.2.1 r.2.2.2.2.2.2.2.1 r.2.2.2.2.2.2.2.2.1 r.2.2.2.2.2.2.2.2.2.1 r.2.2.2.2.2.2.2.2.2.2.1 r.2.2.2.2.2.2.2.2.2.2.2.1 r.2.2.2.2.2.2.2.2.2.2.2.2.1 r.2.2.2.2.2.2.2.2.2.2.2.2.2.1 r.2.2.2.2.2.2.2.2.2.2.2.2.2.2.1 hs;refine Classical.byContradiction fun q=>?_
 have h1:mA.f r=some (false,()):=g.2 q;rw[hM]at h1;cases h1
abbrev inT (t:Int):Prop:= -62135596800≤t∧t≤253402300799
theorem iH {t:Int} (h:inT t): -719162≤t/86400∧t/86400≤2932896:=by unfold inT at h;omega
theorem fJ (r:Rl) (s:Int) (hM:mA.f r=some (true,())) (ht:inT s) (y m d:Int) (e:uA.f (s/86400)=some (y,m,d,0,())):
  wD.f r s=some ((r,s,(s/86400,y,m,d,wk (s/86400),()),s%86400,()),true,()):=by
 have hS:qF.f s=some (true,()):=by rw[(tH s).1,dp ht]
 have hD:=(oD s (by unfold inT at ht;omega) (by unfold inT at ht;omega)).1;rw[wD.f_eq,hM];simp(disch:=omega)only[ss,hS,wD.l1_eq,hD,xW _ _ _ _ e]
theorem nP1 (r:Rl) (s:Int) (b:Bool) (hM:mA.f r=some (b,())) (h:¬(b=true∧inT s)):wD.f r s=some (((0,0,0,0,0,false,[],[],[],[],[],[],[],[],[],()),0,(0,0,0,0,0,()),0,()),false,()):=by
 rw[wD.f_eq,hM]
 cases b with
 | false=>simp(disch:=omega)only[ss,wD.l1_eq]
 | true=>
  have hS:qF.f s=some (false,()):=by rw[(tH s).1,dn (show ¬inT s from fun q=>h ⟨rfl,q⟩)]
  simp(disch:=omega)only[ss,hS,wD.l1_eq]
section
variable (f iv ct un wkst : Int) (en : Bool) (mo we yd md : List Int) (dy : List Dy) (ho mi se po : List Int)
def fitP (m0 d0 w0 n y m d:Int):Prop:=(mo=[]∨m∈mo)∧hasP yd (n-fst_ y+1) (cum y 13)∧hasP md d (mlen y m)∧wdP f mo dy n y m d∧stP f mo we yd md dy m0 d0 w0 n m d∧wkP wkst we n
theorem fJ1 (s sec n0 y0 m0 d0 w0 n y m d:Int) (hs:kL mo we yd md dy ho mi se po) (hw:0≤wkst∧wkst≤6) (h:uG n y m d) (e:uA.f n=some (y,m,d,0,())):
  sC (kB.f ((f,iv,ct,un,wkst,en,mo,we,yd,md,dy,ho,mi,se,po,()),s,(n0,y0,m0,d0,w0,()),sec,()) n) (fitP f wkst mo we yd md dy m0 d0 w0 n y m d):=by
 obtain⟨k1,k2,k3,k4,k5,k6,k7,k8,k9⟩:=hs;obtain⟨q1,q2,q3,q4,q5,q6⟩:=wE h;obtain⟨v1,v2,v3,v4⟩:=pC.1 h.1;have h13:=zX y;have hs13:=dG y v1;have hml:=gK y m;have t1:=sR yd (n-fst_ y+1) (cum y 13) (by omega) (by omega) (by omega);have t2:=sR md d (mlen y m) (by omega) (by omega) (by omega);have t3:=mG1 f iv ct un wkst en mo we yd md dy ho mi se po n y m d ⟨k1,k5⟩ h e;have t4:=hF1 f iv ct un wkst en mo we yd md dy ho mi se po s sec n0 y0 m0 d0 w0 n y m d ⟨k1,k2,k3,k4,k5⟩;have t5:=nG1 f iv ct un wkst en mo we yd md dy ho mi se po n y m d k2 h hw;have tl:=wT t5;have ta:=oF t4 tl;have tb:=oF t3 ta;have hL:sC (kB.l2 n ((f,iv,ct,un,wkst,en,mo,we,yd,md,dy,ho,mi,se,po,()),s,(n0,y0,m0,d0,w0,()),sec,()) (n,y,m,d,wk n,())) (hasP yd (n-fst_ y+1) (cum y 13)∧hasP md d (mlen y m)∧wdP f mo dy n y m d∧stP f mo we yd md dy m0 d0 w0 n m d∧wkP wkst we n):=by rw[kB.l2_eq,pP n y m d h e];simp only[cV1];rw[lR y (by omega)];simp only[cV1];refine oF t1 ?_;rw[gH y m (by omega)];simp only[cV1];exact oF t2 tb
 unfold fitP;rw[kB.f_eq,xW n y m d e];simp only[cV1,jV1,cond_false];by_cases c:mo=[]
 ·subst c;have hnil:(([]:List Int).length:Int)=0:=rfl;simp(disch:=omega)only[ss,hnil,kB.l1_eq];exact hL.iff ⟨fun q=>⟨.inl trivial,q⟩,fun q=>q.2⟩
 ·have hmp:(mo.length:Int)>0:=lE.1 c;by_cases cm:m∈mo
  ·simp(disch:=omega)only[ss,tE mo m (by omega),dp cm,kB.l1_eq];exact hL.iff ⟨fun q=>⟨.inr cm,q⟩,fun q=>q.2⟩
  ·simp(disch:=omega)only[ss,tE mo m (by omega),dn cm,kB.l1_eq];exact⟨false,rfl,by simp[c,cm]⟩
theorem bI1 (s sec n0 y0 m0 d0 w0 n:Int) (h:¬(-719162≤n∧n≤2932896)):kB.f ((f,iv,ct,un,wkst,en,mo,we,yd,md,dy,ho,mi,se,po,()),s,(n0,y0,m0,d0,w0,()),sec,()) n=some (false,()):=by rw[kB.f_eq,xP1 n h];simp(disch:=omega)only[ss,kB.l1_eq]
end
theorem aH (l:List Int) (h:l.length≤1000000):gC.f l=some (l,()):=by have hlim:eD=17179869184:=rfl;rw[gC.f_eq];simp(disch:=omega)only[ss,List.length_nil,hlim,uV1]
theorem uK1 (r:Rl) (h:mG r):wF.f r=some (r,()):=by have hlim:eD=17179869184:=rfl;unfold mG kL at h;obtain⟨h1,h2,h3,h4,h5,h6,h7,h8,h9⟩:=h;rw[wF.f_eq,aH _ (by omega),aH _ (by omega),aH _ (by omega),aH _ (by omega),aH _ (by omega),aH _ (by omega),aH _ (by omega),aH _ (by omega)];simp(disch:=omega)only[ss,List.length_nil,hlim,uV1]
def Rise (l:List Int):Prop:=l.Pairwise (· < ·)
theorem uD {x:Int} {l:List Int}:Rise (x::l)↔(∀y,y∈l→x<y)∧Rise l:=lY1
theorem mF :Rise []:=List.Pairwise.nil
theorem bK {a b:List Int}:Rise (a++b)↔Rise a∧Rise b ∧ ∀x,x∈a → ∀y,y∈b→x<y:=List.pairwise_append
theorem rK :∀{a b:List Int},Rise a→Rise b→(∀x,x∈a↔x∈b)→a=b
 | [],[],_,_,_=>rfl
 | [],y::b,_,_,h=>absurd ((h y).2 (fV1 ..)) (by simp)
 | x::a,[],_,_,h=>absurd ((h x).1 (fV1 ..)) (by simp)
 | x::a,y::b,ha,hb,h=>by
  have pa:=uD.1 ha;have pb:=uD.1 hb;have e:x=y:=by
   rcases kV1.1 ((h x).1 (fV1 ..))with e | e
   ·exact e
   ·rcases kV1.1 ((h y).2 (fV1 ..))with f | f
    ·exact f.symm
    ·have:=pb.1 x e;have:=pa.1 y f;omega
  subst e;have:a=b:=by
   refine rK pa.2 pb.2 fun z=>⟨fun hz=>?_,fun hz=>?_⟩
   ·rcases kV1.1 ((h z).1 (eV1 _ hz))with e | e
    ·have:=pa.1 z hz;omega
    ·exact e
   ·rcases kV1.1 ((h z).2 (eV1 _ hz))with e | e
    ·have:=pb.1 z hz;omega
    ·exact e
  rw[this]
theorem bM :∀{l:List Int},Rise l → ∀{i j:Nat},i<j→j<l.length→l.getD i 0<l.getD j 0
 | [],_,_,_,_,h=>absurd h (by simp)
 | x::l,hr,0,0,h,_=>absurd h (by omega)
 | x::l,hr,0,j+1,_,h=>by
  have hj:j<l.length:=by simpa using h
  rw[List.getD_cons_zero,List.getD_cons_succ,wB1 0 hj];exact(uD.1 hr).1 _ (List.getElem_mem hj)
 | x::l,hr,i+1,0,h,_=>absurd h (by omega)
 | x::l,hr,i+1,j+1,h,h2=>by rw[List.getD_cons_succ,List.getD_cons_succ];exact bM (uD.1 hr).2 (by omega) (by simpa using h2)
theorem gD1 {l:List Int} (hr:Rise l) {i j:Nat} (hi:i<l.length) (hj:j<l.length) (e:l.getD i 0=l.getD j 0):i=j:=by
 rcases Nat.lt_trichotomy i j with h | h | h
 ·have:=bM hr h hj;omega
 ·exact h
 ·have:=bM hr h hi;omega
theorem wI1 :∀{l:List Int},(∀j,0<j→j<l.length→l.getD (j-1) 0<l.getD j 0)→Rise l
 | [],_=>mF
 | [x],_=>uD.2 ⟨fun y h=>absurd h (by simp),mF⟩
 | x::y::l,h=>by
  have hr:Rise (y::l):=wI1 fun j h0 hj=>by
   have:=h (j+1) (by omega) (by simpa using hj)
   match j,h0 with
   | j+1,_=>simpa using this
  have hxy:x<y:=by simpa using h 1 (by omega) (by simp)
  refine uD.2 ⟨fun z hz=>?_,hr⟩;rcases kV1.1 hz with e | e
  ·omega
  ·have:=(uD.1 hr).1 z e;omega
theorem aG1 {l:List Int} {x:Int} (h:x∈l):∃i,i<l.length∧l.getD i 0=x:=by obtain⟨i,hi,e⟩:=List.mem_iff_getElem.1 h;exact⟨i,hi,by rw[wB1 0 hi,e]⟩
theorem eE {l:List Int} {i:Nat} (h:i<l.length):l.getD i 0∈l:=by rw[wB1 0 h];exact List.getElem_mem h
theorem cN {l:List Int} (h:Rise l) (n:Nat):Rise (l.take n):=List.Pairwise.sublist (List.take_sublist n l) h
def tod (h m c:List Int):List Int:=h.flatMap fun a=>m.flatMap fun b=>c.map fun s=>3600*a+60*b+s
def inR (l:List Int) (hi:Int):Prop:=∀x,x∈l→0≤x∧x≤hi
theorem fT {h m c:List Int} (hm:inR m 59) (hc:inR c 59) (x:Int):x∈tod h m c↔x/3600∈h∧x/60%60∈m∧x%60∈c:=by
 unfold tod;rw[kX1];constructor
 ·rintro⟨a,ha,hx⟩;obtain⟨b,hb,hx⟩:=kX1.1 hx;obtain⟨s,hs,e⟩:=yV1.1 hx;have:=hm b hb;have:=hc s hs;have e1:x/3600=a:=by omega
  have e2:x/60%60=b:=by omega
  have e3:x%60=s:=by omega
  rw[e1,e2,e3];exact⟨ha,hb,hs⟩
 ·rintro⟨h1,h2,h3⟩;exact⟨_,h1,kX1.2 ⟨_,h2,yV1.2 ⟨_,h3,by omega⟩⟩⟩
theorem bQ {l:List Int} (h:Rise l) (f:Int→Int) (hf:∀x y,x<y→f x<f y):Rise (l.map f):=by unfold Rise;rw[List.pairwise_map];exact List.Pairwise.imp (fun {a b} h=>hf a b h) h
theorem mN :∀{l:List Int} {f:Int→List Int},Rise l→(∀a,a∈l→Rise (f a))→(∀a b,a∈l→b∈l→a<b → ∀x,x∈f a → ∀y,y∈f b→x<y)→Rise (l.flatMap f)
 | [],_,_,_,_=>mF
 | a::l,f,h,h1,h2=>by rw[xW1,bK];have p:=uD.1 h;refine⟨h1 a (fV1 ..),mN p.2 (fun b hb=>h1 b (eV1 _ hb)) (fun b b' hb hb'=>h2 b b' (eV1 _ hb) (eV1 _ hb')),fun x hx y hy=>?_⟩;obtain⟨b,hb,hy⟩:=kX1.1 hy;exact h2 a b (fV1 ..) (eV1 _ hb) (p.1 b hb) x hx y hy
theorem iC1 {h m c:List Int} (rh:Rise h) (rm:Rise m) (rc:Rise c) (hm:inR m 59) (hc:inR c 59):Rise (tod h m c):=by
 refine mN rh (fun a ha=>mN rm (fun b hb=>bQ rc _ fun x y h=>by omega) ?_) ?_
 ·intro b b' hb hb' hlt x hx y hy;obtain⟨s,hs,e⟩:=yV1.1 hx;obtain⟨s',hs',e'⟩:=yV1.1 hy;have:=hc s hs;have:=hc s' hs';omega
 ·intro b b' hb hb' hlt x hx y hy;obtain⟨d,hd,hx⟩:=kX1.1 hx;obtain⟨d',hd',hy⟩:=kX1.1 hy;obtain⟨s,hs,e⟩:=yV1.1 hx;obtain⟨s',hs',e'⟩:=yV1.1 hy;have:=hc s hs;have:=hc s' hs';have:=hm d hd;have:=hm d' hd';omega
theorem jO1 {h m c:List Int} (hh:inR h 23) (hm:inR m 59) (hc:inR c 59):inR (tod h m c) 86399:=by intro x hx;have⟨h1,h2,h3⟩:=(fT hm hc x).1 hx;have:=hh _ h1;omega
def dayL (h m c:List Int) (lo hi d:Int):List Int:=((tod h m c).filter fun x=>decide (lo≤x)&&decide (x<hi)).map (fun x=>d*86400+x)
theorem eM {h m c:List Int} (hh:inR h 23) (hm:inR m 59) (hc:inR c 59) (lo hi d x:Int):
  x∈dayL h m c lo hi d↔x/86400=d∧x%86400∈tod h m c∧lo≤x%86400∧x%86400<hi:=by
 unfold dayL;rw[yV1];constructor
 ·rintro⟨z,hz,e⟩;have⟨h1,h2⟩:=jX1.1 hz;have:=jO1 hh hm hc z h1;have e1:x%86400=z:=by omega
  rw[e1];simp only[dV1,decide_eq_true_eq]at h2;exact⟨by omega,h1,h2.1,h2.2⟩
 ·rintro⟨h1,h2,h3,h4⟩;exact⟨x%86400,jX1.2 ⟨h2,by simp[h3,h4]⟩,by omega⟩
theorem dO {h m c:List Int} (rh:Rise h) (rm:Rise m) (rc:Rise c) (hm:inR m 59) (hc:inR c 59) (lo hi d:Int):Rise (dayL h m c lo hi d):=by
 refine bQ ?_ _ fun x y h=>by omega
 exact List.Pairwise.sublist aY1 (iC1 rh rm rc hm hc)
def setF (fits:Int→Bool) (h m c:List Int) (lo hi:Int):Nat→Int→List Int
 | 0,_=>[]
 | k+1,d=>(if fits d=true then dayL h m c lo hi d else [])++setF fits h m c lo hi k (d+1)
theorem eX {fits:Int→Bool} {h m c:List Int} (hh:inR h 23) (hm:inR m 59) (hc:inR c 59) (lo hi x:Int):∀(k:Nat) (d:Int),
  x∈setF fits h m c lo hi k d↔d≤x/86400∧x/86400<d+k∧fits (x/86400)=true∧x%86400∈tod h m c∧lo≤x%86400∧x%86400<hi
 | 0,d=>by
  constructor
  ·intro hx;exact absurd hx (by simp[setF])
  ·rintro⟨h1,h2,_⟩;omega
 | k+1,d=>by
  unfold setF;rw[gW1,eX hh hm hc lo hi x k (d+1)];constructor
  ·rintro(h1 | ⟨h1,h2,h3⟩)
   ·by_cases hf:fits d=true
    ·rw[if_pos hf,eM hh hm hc]at h1;obtain⟨e,h1⟩:=h1;rw[e];exact⟨by omega,by omega,hf,h1⟩
    ·rw[if_neg hf]at h1;exact absurd h1 (by simp)
   ·exact⟨by omega,by omega,h3⟩
  ·rintro⟨h1,h2,h3,h4⟩;by_cases e:x/86400=d
   ·rw[e]at h3;rw[if_pos h3,eM hh hm hc];exact Or.inl ⟨e,h4⟩
   ·exact Or.inr ⟨by omega,by omega,h3,h4⟩
theorem bY {fits:Int→Bool} {h m c:List Int} (rh:Rise h) (rm:Rise m) (rc:Rise c) (hh:inR h 23) (hm:inR m 59) (hc:inR c 59) (lo hi:Int):∀(k:Nat) (d:Int),
  Rise (setF fits h m c lo hi k d)
 | 0,_=>mF
 | k+1,d=>by
  unfold setF;rw[bK];refine⟨?_,bY rh rm rc hh hm hc lo hi k (d+1),?_⟩
  ·by_cases hf:fits d=true
   ·rw[if_pos hf];exact dO rh rm rc hm hc lo hi d
   ·rw[if_neg hf];exact mF
  ·intro x hx y hy;have hy:=(eX hh hm hc lo hi y k (d+1)).1 hy;by_cases hf:fits d=true
   ·rw[if_pos hf,eM hh hm hc]at hx;omega
   ·rw[if_neg hf]at hx;exact absurd hx (by simp)
def upTo (n:Nat):List Int:=(List.range n).map fun(j:Nat)=>(j:Int)
theorem dR (n:Nat):upTo (n+1)=upTo n++[(n:Int)]:=by unfold upTo;rw[List.range_succ,zV1];rfl
theorem mX (n:Nat):(upTo n).length=n:=by unfold upTo;simp
theorem dM {n:Nat} {x:Int}:x∈upTo n↔0≤x∧x<n:=by
 unfold upTo;rw[yV1];constructor
 ·rintro⟨j,hj,e⟩;have:=List.mem_range.1 hj;omega
 ·rintro⟨h0,h1⟩;exact⟨x.toNat,List.mem_range.2 (by omega),by omega⟩
theorem oZ :∀n,Rise (upTo n)
 | 0=>mF
 | n+1=>by rw[dR,bK];refine⟨oZ n,uD.2 ⟨fun y h=>absurd h (by simp),mF⟩,fun x hx y hy=>?_⟩;have:=dM.1 hx;have:=cW1.1 hy;omega
theorem oQ1 (all:Nat) (h:all≤1000):∀(k i:Nat),all-i=k→i≤all→kD.l1 (all:Int) (i:Int) (upTo i)=some (upTo all,()):=by
 have hlim:eD=17179869184:=rfl;intro k
 induction k with
 | zero=>
  intro i hk hil;have e:i=all:=by omega
  subst e;rw[kD.l1_eq];simp(disch:=omega)only[ss]
 | succ k ih=>
  intro i hk hil;have hlen:=mX i;have:=ih (i+1) (by omega) (by omega);rw[dR,pV1,qV1]at this;rw[kD.l1_eq];simp(disch:=omega)only[ss,hlen,mW1,hlim];exact this
theorem xN1 (all:Nat) (h:all≤1000):∀(k i:Nat),all-i=k→i≤all→iD.l1 (all:Int) (i:Int) (upTo i)=some (upTo all,()):=by
 have hlim:eD=17179869184:=rfl;intro k
 induction k with
 | zero=>
  intro i hk hil;have e:i=all:=by omega
  subst e;rw[iD.l1_eq];simp(disch:=omega)only[ss]
 | succ k ih=>
  intro i hk hil;have hlen:=mX i;have:=ih (i+1) (by omega) (by omega);rw[dR,pV1,qV1]at this;rw[iD.l1_eq];simp(disch:=omega)only[ss,hlen,mW1,hlim];exact this
def tms (l:List Int) (single:Bool) (n:Int) (all:Nat):List Int:=if l=[]then(if single=true then [n]else upTo all)else l
theorem dI (l:List Int) (single:Bool) (n:Int) (all:Nat) (hl:l.length≤1000000) (hb:all≤100):
  kD.f l single n (all:Int)=some (tms l single n all,())∧lD.f l single n (all:Int)=some (tms l single n all,()):=by
 have hlim:eD=17179869184:=rfl;unfold tms;rw[kD.f_eq,lD.f_eq];by_cases c:l=[]
 ·subst c;have hnil:(([]:List Int).length:Int)=0:=rfl;rw[if_pos rfl]
  cases single with
  | true=>
   rw[if_pos rfl];simp(disch:=omega)only[ss,hnil];exact⟨trivial,trivial⟩
  | false=>
   have hl:=oQ1 all (by omega) all 0 (by omega) (hV1 _);have hv:=xN1 all (by omega) all 0 (by omega) (hV1 _);rw[oV1]at hl hv;rw[if_neg (by simp)];simp(disch:=omega)only[ss,hnil,iD.f_eq];have e:upTo 0=[]:=rfl;rw[e]at hl hv;rw[hl,hv];exact⟨rfl,rfl⟩
 ·have hp:(l.length:Int)>0:=lE.1 c;have hC:xD.f l=some (l,()):=by rw[xD.f_sem];show(bif decide (l.length≤eD)then some (l,())else none)=_;simp(disch:=omega)only[ss,hlim]
  rw[if_neg c];simp(disch:=omega)only[ss,hC,aH l hl];exact⟨trivial,trivial⟩
def okT (x:List Int) (hi:Int):Prop:=Rise x∧inR x hi∧x.length≤60
theorem bR1 {l:List Int} {lo hi:Int} {z:Bool} (h:wi l lo hi z):Rise l:=wI1 fun j h0 hj=>(h.1 j hj).2 h0
theorem tK1 (l:List Int) (single:Bool) (n hi:Int) (all:Nat) (hw:wi l 0 hi true) (hn:0≤n∧n≤hi) (ha:(all:Int)=hi+1) (hb:all≤60):okT (tms l single n all) hi:=by
 unfold tms;by_cases c:l=[]
 ·rw[if_pos c]
  cases single with
  | true=>
   rw[if_pos rfl];refine⟨uD.2 ⟨fun y h=>absurd h (by simp),mF⟩,fun x hx=>?_,by simp⟩;have:=cW1.1 hx;omega
  | false=>
   rw[if_neg (by simp)];refine⟨oZ all,fun x hx=>?_,by rw[mX];exact hb⟩;have:=dM.1 hx;omega
 ·rw[if_neg c];refine⟨bR1 hw,fun x hx=>?_,hw.2⟩;obtain⟨i,hi1,e⟩:=aG1 hx;have:=(hw.1 i hi1).1;unfold okI at this;omega
theorem mK1 (r:Rl) (s n:Int) (hr:mG r):∃k,vB.f r s n=some (k,()):=by
 obtain⟨b,hb⟩:=sQ r hr;have hV:=wQ r hr;rw[hb]at hV;have hT:=(tH s).2;have hlast:∀x:Int,∃k,vB.l2 n x=some (k,()):=fun x=>⟨_,by rw[vB.l2_eq]⟩
 have hl1:∀(x:Int) (c:Bool),∃k,vB.l1 n x c=some (k,()):=fun x c=>by
  rw[vB.l1_eq]
  cases c with
  | true=>rw[cond_true];exact hlast _
  | false=>rw[cond_false];exact hlast _
 have hfin:∀(t:List Int×List Int×List Int×Unit),mD.f r s=some t → ∃k,vB.f r s n=some (k,()):=fun t ht=>by
  rw[vB.f_eq,ht,cV1];by_cases c:(r.2.2.2.2.2.2.2.2.2.2.2.2.2.2.1.length:Int)>0
  ·rw[dp c,cond_true];exact hl1 _ _
  ·rw[dn c,cond_false];exact hl1 _ _
 have hright:eC.f r s=some (b&&decide (-62135596800≤s∧s≤253402300799),()):=by rw[eC.f_eq,←hV,hT];cases b <;> rfl
 by_cases c:b=true∧inT s
 ·obtain⟨rfl,ht⟩:=c;have hD:=(oD s (by unfold inT at ht;omega) (by unfold inT at ht;omega)).2;unfold mG kL at hr;obtain⟨_,_,_,_,_,h6,h7,h8,_⟩:=hr;have t1:∀sg n,lD.f r.2.2.2.2.2.2.2.2.2.2.2.1 sg n 24=some (tms r.2.2.2.2.2.2.2.2.2.2.2.1 sg n 24,()):=fun sg n=>(dI _ sg n 24 (by omega) (by omega)).2
  have t2:∀sg n,lD.f r.2.2.2.2.2.2.2.2.2.2.2.2.1 sg n 60=some (tms r.2.2.2.2.2.2.2.2.2.2.2.2.1 sg n 60,()):=fun sg n=>(dI _ sg n 60 (by omega) (by omega)).2
  have t3:∀sg n,lD.f r.2.2.2.2.2.2.2.2.2.2.2.2.2.1 sg n 60=some (tms r.2.2.2.2.2.2.2.2.2.2.2.2.2.1 sg n 60,()):=fun sg n=>(dI _ sg n 60 (by omega) (by omega)).2
  rw[dp ht]at hright;have hX:∃t,mD.f r s=some t:=by rw[mD.f_eq,hright];simp(disch:=omega)only[ss,hD,t1,t2,t3];exact⟨_,rfl⟩
  obtain⟨t,hX⟩:=hX;exact hfin t hX
 ·have e:(b&&decide (-62135596800≤s∧s≤253402300799))=false:=by
   cases b with
   | false=>rfl
   | true=>rw[dn (fun q=>c ⟨rfl,q⟩)];rfl
  rw[e]at hright;refine hfin ([],[],[],()) ?_;rw[mD.f_eq,hright];simp(disch:=omega)only[ss]
def cF1 (f w:Int) (we:List Int) (n k:Int):Prop:=
 (f=1∧we=[] ∧ ∃m d,uG n k m d)∨(f=1∧we≠[]∧0≤k ∧ ∃j,rU n w k j)∨(f=2 ∧ ∃y m d,uG n y m d∧k=12*y+m)∨(f=3∧k=(n+3-w)/7)∨(f=4∧k=n)
def cA1 (f w:Int) (we:List Int) (t k:Int):Prop:=(f≤4∧cF1 f w we (t/86400) k)∨(f=5∧k=t/3600)∨(f=6∧k=t/60)∨(f=7∧k=t)
def off (f w:Int):Int:=if f=3 then(if w<3 then 2932895 else 2932896)else 0
theorem dV (t k:Int) (h:inT t) (hk:0<k) (hk2:k≤3600):tJ.f t k=some (t/k,())∧oE.f t k=some (t/k,()):=by
 obtain⟨e1,e2⟩:=tdm t k hk;have b1:=Int.emod_nonneg t (show k≠0 by omega);have b2:=mY1 t hk;have hq:=Int.emod_add_mul_ediv t k;unfold inT at h;have b3:t/k≤253402300799:=by have:=Int.ediv_le_ediv hk h.2;have:=Int.ediv_le_self k (show(0:Int)≤253402300799 by omega);omega
 have b4: -62135596801≤t/k:=by
  have h5:=Int.ediv_le_ediv hk h.1;have h6: -62135596801 ≤ -62135596800/k:=by refine Int.le_ediv_of_mul_le hk ?_;have:1*62135596801≤k*62135596801:=Int.mul_le_mul_of_nonneg_right (by omega) (by omega);omega
  omega
 constructor
 ·rw[tJ.f_eq];by_cases c:t<0
  ·have hd:(0-t+k-1)/k = -(t/k):=by
    by_cases hz:t%k=0
    ·have:0-t+k-1=(k-1)+k*(-(t/k)):=by rw[Int.mul_neg];omega
     rw[this,Int.add_mul_ediv_left _ _ (by omega),Int.ediv_eq_zero_of_lt (by omega) (by omega)];omega
    ·have:0-t+k-1=(k-t%k-1)+k*(-(t/k)):=by rw[Int.mul_neg];omega
     rw[this,Int.add_mul_ediv_left _ _ (by omega),Int.ediv_eq_zero_of_lt (by omega) (by omega)];omega
   have hk0:¬k=0:=by omega
   have e3:0 - -(t/k)=t/k:=by omega
   simp(disch:=omega)only[ss,tdn (show(0:Int)≤0-t+k-1 by omega),hd,e3]
  ·simp(disch:=omega)only[ss,tdn (show(0:Int)≤t by omega)]
 ·rw[oE.f_eq,e1,e2];by_cases c:t%k≠0∧t<0
  ·rw[if_pos c,if_pos c];have q:t/k+1-1=t/k:=by omega
   simp(disch:=omega)only[ss,q]
  ·rw[if_neg c,if_neg c];simp(disch:=omega)only[ss]
theorem mU1 (a:Int) (h1: -10000000≤a) (h2:a≤10000000):oE.f a 7=some (a/7,()):=by
 obtain⟨e1,e2⟩:=tdm a 7 (by omega);rw[oE.f_eq,e1,e2];by_cases c:a%7≠0∧a<0
 ·rw[if_pos c,if_pos c];have q:a/7+1-1=a/7:=by omega
  simp(disch:=omega)only[ss,q]
 ·rw[if_neg c,if_neg c];simp(disch:=omega)only[ss]
section
variable (f iv ct un wkst : Int) (en : Bool) (mo we yd md : List Int) (dy : List Dy) (ho mi se po : List Int)
theorem yD1 (t:Int) (ht:inT t) (hf:1≤f∧f≤7) (hw:0≤wkst∧wkst≤6) (hl:we.length≤100000):
  ∃k,cA1 f wkst we t k∧(-300000000000≤k∧k≤300000000000)∧nG.f (f,iv,ct,un,wkst,en,mo,we,yd,md,dy,ho,mi,se,po,()) t=some (k+off f wkst,())∧iC.f (f,iv,ct,un,wkst,en,mo,we,yd,md,dy,ho,mi,se,po,()) t=some (k,()):=by
 have hb:=iH ht;obtain⟨y,m,d,hd,e,e'⟩:=oG (t/86400) hb.1 hb.2;obtain⟨hD,hV⟩:=oD t (by unfold inT at ht;omega) (by unfold inT at ht;omega);obtain⟨q1,q2,q3,q4,_⟩:=wE hd;obtain⟨v1,v2,v3,v4⟩:=pC.1 hd.1;have hof:=xW (t/86400) y m d e;rw[nG.f_eq,iC.f_eq,hD,hV];simp only[cV1];rw[hof];simp only[cV1];by_cases f1:f=1
 ·subst f1;have ho:off 1 wkst=0:=rfl;by_cases c:we=[]
  ·subst c;have hnil:(([]:List Int).length:Int)=0:=rfl;refine⟨y,.inl ⟨by omega,.inl ⟨rfl,rfl,m,d,hd⟩⟩,by omega,?_,?_⟩
   ·rw[ho,Int.add_zero];simp(disch:=omega)only[ss,mI.f_eq,hnil]
   ·simp(disch:=omega)only[ss,lG.f_eq,hnil,e']
  ·have hp:=lE.1 c;obtain⟨Y,K,h1,h2,h3,h4,h5,h6,h7⟩:=eN (t/86400) wkst hb.1 hb.2 hw.1 hw.2;refine⟨Y,.inl ⟨by omega,.inr (.inl ⟨rfl,c,h2,K,h1⟩)⟩,by omega,?_,?_⟩
   ·rw[ho,Int.add_zero];simp(disch:=omega)only[ss,mI.f_eq,h6]
   ·simp(disch:=omega)only[ss,lG.f_eq,h7]
 ·by_cases f2:f=2
  ·subst f2;have ho:off 2 wkst=0:=rfl;refine⟨12*y+m,.inl ⟨by omega,.inr (.inr (.inl ⟨rfl,y,m,d,hd,rfl⟩))⟩,by omega,?_,?_⟩
   ·rw[ho,Int.add_zero];simp(disch:=omega)only[ss]
   ·simp(disch:=omega)only[ss,e']
  ·by_cases f3:f=3
   ·subst f3;have hk:=pI1 (t/86400);have hm:Int.tmod (wk (t/86400)-wkst+7) 7=(t/86400+3-wkst)%7:=by rw[tmn (by omega)];unfold wk;omega
    have h7:=mU1 (t/86400+3-wkst) (by omega) (by omega);have hb7:Int.tdiv (t/86400-(t/86400+3-wkst)%7+20530272) 7=(t/86400+3-wkst)/7+off 3 wkst:=by rw[tdn (by omega)];unfold off;rw[if_pos rfl];split <;> omega
    have ho:off 3 wkst=2932895∨off 3 wkst=2932896:=by unfold off;rw[if_pos rfl];split <;> simp
    refine⟨(t/86400+3-wkst)/7,.inl ⟨by omega,.inr (.inr (.inr (.inl ⟨rfl,rfl⟩)))⟩,by omega,?_,?_⟩
    ·rw[cM.f_eq,vH];simp(disch:=omega)only[ss,hm,hb7]
    ·simp(disch:=omega)only[ss,h7]
   ·have ho:off f wkst=0:=by unfold off;rw[if_neg f3]
    rw[ho];by_cases f4:f=4
    ·subst f4;refine⟨t/86400,.inl ⟨by omega,.inr (.inr (.inr (.inr ⟨rfl,rfl⟩)))⟩,by omega,?_,?_⟩
     ·rw[Int.add_zero];simp(disch:=omega)only[ss]
     ·simp(disch:=omega)only[ss]
    ·by_cases f5:f=5
     ·subst f5;obtain⟨g1,g2⟩:=dV t 3600 ht (by omega) (by omega);refine⟨t/3600,.inr (.inl ⟨rfl,rfl⟩),by unfold inT at ht;omega,?_,?_⟩
      ·rw[Int.add_zero];simp(disch:=omega)only[ss,g1]
      ·simp(disch:=omega)only[ss,g2]
     ·by_cases f6:f=6
      ·subst f6;obtain⟨g1,g2⟩:=dV t 60 ht (by omega) (by omega);refine⟨t/60,.inr (.inr (.inl ⟨rfl,rfl⟩)),by unfold inT at ht;omega,?_,?_⟩
       ·rw[Int.add_zero];simp(disch:=omega)only[ss,g1]
       ·simp(disch:=omega)only[ss,g2]
      ·have f7:f=7:=by omega
       subst f7;refine⟨t,.inr (.inr (.inr ⟨rfl,rfl⟩)),by unfold inT at ht;omega,?_,?_⟩
       ·rw[Int.add_zero];simp(disch:=omega)only[ss]
       ·simp(disch:=omega)only[ss]
end
theorem aN {n y y':Int} (h0:1≤y) (h1:1≤y') (a1:fst_ y≤n) (a2:n<fst_ (y+1)) (b1:fst_ y'≤n) (b2:n<fst_ (y'+1)):y=y':=by
 rcases Int.lt_trichotomy y y' with c | c | c
 ·have:=nD (a:=y+1) (b:=y') (by omega) (by omega);omega
 ·exact c
 ·have:=nD (a:=y'+1) (b:=y) (by omega) (by omega);omega
theorem rW {f w:Int} {we:List Int} {n n' k k':Int} (h:cF1 f w we n k) (g:cF1 f w we n' k') (hn:n≤n'):k≤k':=by
 rcases h with⟨f1,e1,m,d,h⟩ | ⟨f1,e1,h0,j,h⟩ | ⟨f1,y,m,d,h,rfl⟩ | ⟨f1,rfl⟩ | ⟨f1,rfl⟩ <;>
  rcases g with⟨f2,e2,m',d',g⟩ | ⟨f2,e2,g0,j',g⟩ | ⟨f2,y',m',d',g,rfl⟩ | ⟨f2,rfl⟩ | ⟨f2,rfl⟩ <;> first | omega | (exact absurd e1 e2) | (exact absurd e2 e1) | skip
 ·obtain⟨a1,a2,_⟩:=wE h;obtain⟨b1,b2,_⟩:=wE g;obtain⟨v1,_⟩:=pC.1 h.1;obtain⟨v2,_⟩:=pC.1 g.1;refine Int.not_lt.1 fun c=>?_
  have:=nD (a:=k'+1) (b:=k) (by omega) (by omega);omega
 ·refine Int.not_lt.1 fun c=>?_
  have:=zA1 (a:=k'+1) (b:=k) (w:=w) (by omega) (by omega);obtain⟨a1,a2,_⟩:=h;obtain⟨b1,b2,_⟩:=g;omega
 ·obtain⟨a1,a2,a3,a4,_⟩:=wE h;obtain⟨b1,b2,b3,b4,_⟩:=wE g;obtain⟨v1,v1',v1'',v1d⟩:=pC.1 h.1;obtain⟨v2,v2',v2'',v2d⟩:=pC.1 g.1;have h2:=h.2;have g2:=g.2;rcases Int.lt_trichotomy y y' with c | c | c
  ·omega
  ·subst c;refine Int.not_lt.1 fun c=>?_
   have cs:=zE y m' b3 b4;have:=zL y (a:=m'+1) (b:=m) (by omega) (by omega) (by omega);omega
  ·have:=nD (a:=y'+1) (b:=y) (by omega) (by omega);omega
theorem kX {f w:Int} {we:List Int} {t t' k k':Int} (h:cA1 f w we t k) (g:cA1 f w we t' k') (ht:t≤t'):k≤k':=by
 rcases h with⟨a,h⟩ | ⟨a,rfl⟩ | ⟨a,rfl⟩ | ⟨a,rfl⟩ <;> rcases g with⟨b,g⟩ | ⟨b,rfl⟩ | ⟨b,rfl⟩ | ⟨b,rfl⟩ <;> first | omega | skip
 exact rW h g (by omega)
end Go.GV.YtegmfagkklekaaaGreatDoor
