/-
Part of the words that MeetTexts is proved with: no statement of its own, no conditions.
-/
import Derived.Test.YtegmfagkklekaaaGreatDoorFMeetTextst
set_option linter.unusedVariables false
set_option linter.unusedSimpArgs false
namespace Go.GV.YtegmfagkklekaaaGreatDoor
open Go.Proofs
def oE (f:Option (Bool×Unit)) (p:Prop):Prop:=∃b,f=some (b,())∧(b=true↔p)
theorem oE.iff {f:Option (Bool×Unit)} {p q:Prop} (h:oE f p) (e:p↔q):oE f q:=by obtain⟨b,h1,h2⟩:=h;exact⟨b,h1,h2.trans e⟩
theorem oE.eq {f g:Option (Bool×Unit)} {p:Prop} (h:oE f p) (k:oE g p):f=g:=by
 obtain⟨b,h1,h2⟩:=h;obtain⟨c,k1,k2⟩:=k;have:b=c:=by cases b <;> cases c <;> simp at h2 k2 <;> first | rfl | exact absurd k2 h2 | exact absurd h2 k2
 rw[h1,k1,this]
def okI (l:List Int) (lo hi:Int) (z:Bool) (j:Nat):Prop:=lo≤l.getD j 0∧l.getD j 0≤hi∧(l.getD j 0=0→z=true)
def adjI (l:List Int) (j:Nat):Prop:=0<j→l.getD (j-1) 0<l.getD j 0
theorem mO1 (l:List Int) (lo hi:Int) (z:Bool) (hl:l.length≤1000000):∀(k i:Nat),l.length-i=k→i≤l.length →
  oE (tB.l1 l lo hi z l l.length i) ((∀j,i≤j→j<l.length→okI l lo hi z j∧adjI l j)∧l.length≤60):=by
 intro k
 induction k with
 | zero=>
  intro i hk hil;rw[tB.l1_eq];simp(disch:=omega)only[ss];refine⟨_,rfl,?_⟩;rw[decide_eq_true_eq];exact⟨fun h=>⟨fun j h1 h2=>by omega,by omega⟩,fun h=>by omega⟩
 | succ k ih=>
  intro i hk hil;have hlt:i<l.length:=by omega
  have step:okI l lo hi z i∧adjI l i→oE (tB.l2 l lo hi z l l.length i false) ((∀j,i≤j→j<l.length→okI l lo hi z j∧adjI l j)∧l.length≤60):=fun h=>by
   rw[tB.l2_eq];simp(disch:=omega)only[ss];refine(ih (i+1) (by omega) (by omega)).iff ⟨fun q=>⟨fun j h1 h2=>?_,q.2⟩,fun q=>⟨fun j h1 h2=>q.1 j (by omega) h2,q.2⟩⟩;by_cases e:j=i
   ·subst e;exact h
   ·exact q.1 j (by omega) h2
  have stop:¬(okI l lo hi z i∧adjI l i)→oE (tB.l2 l lo hi z l l.length i true) ((∀j,i≤j→j<l.length→okI l lo hi z j∧adjI l j)∧l.length≤60):=fun h=>by rw[tB.l2_eq,cond_true];exact⟨false,rfl,by simp;intro q;exact absurd (q i (yH2 _) hlt) h⟩
  have last:okI l lo hi z i→oE (bif decide ((i:Int)>0)then(bif decide (0≤(i:Int)-1)then(tB.l2 l lo hi z l l.length i (decide (l.getD i 0≤l.getD (i-1) 0)))else none)else(tB.l2 l lo hi z l l.length i false)) ((∀j,i≤j→j<l.length→okI l lo hi z j∧adjI l j)∧l.length≤60):=fun h=>by
   by_cases h0:i=0
   ·simp(disch:=omega)only[ss];exact step ⟨h,fun q=>by omega⟩
   ·simp(disch:=omega)only[ss];by_cases c:l.getD i 0≤l.getD (i-1) 0
    ·rw[dp c];exact stop fun q=>by have:=q.2 (by omega);omega
    ·rw[dn c];exact step ⟨h,fun _=>by omega⟩
  rw[tB.l1_eq];simp(disch:=omega)only[ss];by_cases c1:l.getD i 0<lo
  ·rw[dp c1,cond_true];exact stop fun q=>by have:=q.1.1;omega
  ·by_cases c2:l.getD i 0>hi
   ·rw[dn c1,dp c2,cond_false,cond_true];exact stop fun q=>by have:=q.1.2.1;omega
   ·rw[dn c1,dn c2,cond_false,cond_false];by_cases c3:l.getD i 0=0
    ·rw[dp c3,cond_true]
     cases z with
     | false=>
      exact stop fun q=>by have:=q.1.2.2 c3;cases this
     | true=>exact last ⟨by omega,by omega,fun _=>rfl⟩
    ·rw[dn c3,cond_false];exact last ⟨by omega,by omega,fun q=>absurd q c3⟩
def wi (l:List Int) (lo hi:Int) (z:Bool):Prop:=(∀j,j<l.length→okI l lo hi z j∧adjI l j)∧l.length≤60
theorem aH (l:List Int) (lo hi:Int) (z:Bool) (hl:l.length≤1000000):oE (tB.f l lo hi z) (wi l lo hi z):=by have:=mO1 l lo hi z hl _ 0 rfl (uH2 _);rw[eI2]at this;rw[tB.f_eq];exact this.iff ⟨fun h=>⟨fun j h2=>h.1 j (uH2 _) h2,h.2⟩,fun h=>⟨fun j _ h2=>h.1 j h2,h.2⟩⟩
theorem yO1 (l:List Int) (hl:l.length≤1000000):∀(k i:Nat),l.length-i=k→0<i→oE (zD.l1 l i) (∀j,i≤j→j<l.length→adjI l j):=by
 intro k
 induction k with
 | zero=>
  intro i hk hil;rw[zD.l1_eq];by_cases hlt:i<l.length
  ·omega
  ·simp(disch:=omega)only[ss];exact⟨true,rfl,by simp;intro j h1 h2;omega⟩
 | succ k ih=>
  intro i hk hil;have hlt:i<l.length:=by omega
  have w1:w6 ((i:Int)-1)=((i-1:Nat):Int):=uR (by omega) (by omega);rw[zD.l1_eq];simp(disch:=omega)only[ss,w1];by_cases c:l.getD i 0≤l.getD (i-1) 0
  ·rw[dp c,cond_true];exact⟨false,rfl,by simp;exact⟨i,yH2 _,hlt,fun q=>by have:=q hil;omega⟩⟩
  ·rw[dn c,cond_false];refine(ih (i+1) (by omega) (by omega)).iff ⟨fun q j h1 h2=>?_,fun q j h1 h2=>q j (by omega) h2⟩;by_cases e:j=i
   ·subst e;intro _;omega
   ·exact q j (by omega) h2
theorem lM (l:List Int) (hl:l.length≤1000000):oE (zD.f l) (∀j,j<l.length→adjI l j):=by have:=yO1 l hl _ 1 rfl (by omega);rw[zD.f_eq];exact this.iff ⟨fun h j h2 h0=>h j (by omega) h2 h0,fun h j _ h2=>h j h2⟩
theorem nL1 (l:List Int) (lo hi:Int) (z:Bool) (hl:l.length≤1000000):∀(k i:Nat),l.length-i=k→i≤l.length →
  oE (eB.l1 l lo hi z i) ((∀j,i≤j→j<l.length→okI l lo hi z j)∧(∀j,j<l.length→adjI l j)∧l.length≤60):=by
 intro k
 induction k with
 | zero=>
  intro i hk hil;rw[eB.l1_eq];simp(disch:=omega)only[ss];by_cases c:(l.length:Int)≤60
  ·obtain⟨b,h1,h2⟩:=lM l hl;simp(disch:=omega)only[ss,h1];exact⟨b,rfl,h2.trans ⟨fun q=>⟨fun j h3 h4=>by omega,q,by omega⟩,fun q=>q.2.1⟩⟩
  ·simp(disch:=omega)only[ss];exact⟨false,rfl,by simp;intro _ _;omega⟩
 | succ k ih=>
  intro i hk hil;have hlt:i<l.length:=by omega
  have step:okI l lo hi z i→oE (eB.l2 l lo hi z i false) ((∀j,i≤j→j<l.length→okI l lo hi z j)∧(∀j,j<l.length→adjI l j)∧l.length≤60):=fun h=>by
   rw[eB.l2_eq];simp(disch:=omega)only[ss];refine(ih (i+1) (by omega) (by omega)).iff ⟨fun q=>⟨fun j h1 h2=>?_,q.2⟩,fun q=>⟨fun j h1 h2=>q.1 j (by omega) h2,q.2⟩⟩;by_cases e:j=i
   ·subst e;exact h
   ·exact q.1 j (by omega) h2
  have stop:¬okI l lo hi z i→oE (eB.l2 l lo hi z i true) ((∀j,i≤j→j<l.length→okI l lo hi z j)∧(∀j,j<l.length→adjI l j)∧l.length≤60):=fun h=>by rw[eB.l2_eq,cond_true];exact⟨false,rfl,by simp;intro q;exact absurd (q i (yH2 _) hlt) h⟩
  rw[eB.l1_eq];simp(disch:=omega)only[ss];by_cases c1:l.getD i 0<lo
  ·rw[dp c1,cond_true];exact stop fun q=>by have:=q.1;omega
  ·by_cases c2:l.getD i 0>hi
   ·rw[dn c1,dp c2,cond_false,cond_true];exact stop fun q=>by have:=q.2.1;omega
   ·rw[dn c1,dn c2,cond_false,cond_false];by_cases c3:l.getD i 0=0
    ·rw[dp c3,cond_true]
     cases z with
     | false=>exact stop fun q=>by have:=q.2.2 c3;cases this
     | true=>exact step ⟨by omega,by omega,fun _=>rfl⟩
    ·rw[dn c3,cond_false];exact step ⟨by omega,by omega,fun q=>absurd q c3⟩
theorem mG (l:List Int) (lo hi:Int) (z:Bool) (hl:l.length≤1000000):oE (eB.f l lo hi z) (wi l lo hi z):=by have:=nL1 l lo hi z hl _ 0 rfl (uH2 _);rw[eI2]at this;rw[eB.f_eq];exact this.iff ⟨fun h=>⟨fun j h2=>⟨h.1 j (uH2 _) h2,h.2.1 j h2⟩,h.2.2⟩,fun h=>⟨fun j _ h2=>(h.1 j h2).1,fun j h2=>(h.1 j h2).2,h.2⟩⟩
def gD (l:List Dy) (j:Nat):Dy:=l.getD j ((0,0,()):Int×Int×Unit)
def okD (l:List Dy) (j:Nat):Prop:= -53≤(gD l j).1∧(gD l j).1≤53∧0≤(gD l j).2.1∧(gD l j).2.1≤6∧(0<j→dyLt (gD l (j-1)) (gD l j))
def dwi (l:List Dy):Prop:=(∀j,j<l.length→okD l j)∧l.length≤60
theorem wD2 (l:List Dy) (hl:l.length≤1000000):∀(k i:Nat),l.length-i=k→i≤l.length→oE (dB.l1 l i) ((∀j,i≤j→j<l.length→okD l j)∧l.length≤60):=by
 intro k
 induction k with
 | zero=>
  intro i hk hil;rw[dB.l1_eq];simp(disch:=omega)only[ss];refine⟨_,rfl,?_⟩;rw[decide_eq_true_eq];exact⟨fun h=>⟨fun j h1 h2=>by omega,by omega⟩,fun h=>by omega⟩
 | succ k ih=>
  intro i hk hil;have hlt:i<l.length:=by omega
  have step:okD l i→oE (dB.l2 l i false) ((∀j,i≤j→j<l.length→okD l j)∧l.length≤60):=fun h=>by
   rw[dB.l2_eq];simp(disch:=omega)only[ss];refine(ih (i+1) (by omega) (by omega)).iff ⟨fun q=>⟨fun j h1 h2=>?_,q.2⟩,fun q=>⟨fun j h1 h2=>q.1 j (by omega) h2,q.2⟩⟩;by_cases e:j=i
   ·subst e;exact h
   ·exact q.1 j (by omega) h2
  have stop:¬okD l i→oE (dB.l2 l i true) ((∀j,i≤j→j<l.length→okD l j)∧l.length≤60):=fun h=>by rw[dB.l2_eq,cond_true];exact⟨false,rfl,by simp;intro q;exact absurd (q i (yH2 _) hlt) h⟩
  have hg:l.getD i ((0,0,()):Int×Int×Unit)=gD l i:=rfl;have hg1:l.getD (i-1) ((0,0,()):Int×Int×Unit)=gD l (i-1):=rfl;rw[dB.l1_eq];simp(disch:=omega)only[ss,hg];by_cases c1:(gD l i).1 < -53
  ·rw[dp c1,cond_true];exact stop fun q=>by have:=q.1;omega
  ·by_cases c2:(gD l i).1>53
   ·rw[dn c1,dp c2,cond_false,cond_true];exact stop fun q=>by have:=q.2.1;omega
   ·by_cases c3:(gD l i).2.1<0
    ·rw[dn c1,dn c2,dp c3,cond_false,cond_false,cond_true];exact stop fun q=>by have:=q.2.2.1;omega
    ·by_cases c4:(gD l i).2.1>6
     ·rw[dn c1,dn c2,dn c3,dp c4,cond_false,cond_false,cond_false,cond_true];exact stop fun q=>by have:=q.2.2.2.1;omega
     ·rw[dn c1,dn c2,dn c3,dn c4,cond_false,cond_false,cond_false,cond_false];by_cases h0:i=0
      ·simp(disch:=omega)only[ss];exact step ⟨by omega,by omega,by omega,by omega,fun q=>by omega⟩
      ·have w1:w6 ((i:Int)-1)=((i-1:Nat):Int):=uR (by omega) (by omega);simp(disch:=omega)only[ss,w1,hg1];by_cases c5:(gD l i).1<(gD l (i-1)).1
       ·rw[dp c5,cond_true];exact stop fun q=>by have:=q.2.2.2.2 (by omega);unfold dyLt at this;omega
       ·by_cases c6:(gD l i).1=(gD l (i-1)).1
        ·rw[dn c5,dp c6,cond_false,cond_true];by_cases c7:(gD l i).2.1≤(gD l (i-1)).2.1
         ·rw[dp c7];exact stop fun q=>by have:=q.2.2.2.2 (by omega);unfold dyLt at this;omega
         ·rw[dn c7];exact step ⟨by omega,by omega,by omega,by omega,fun _=>by unfold dyLt;omega⟩
        ·rw[dn c5,dn c6,cond_false,cond_false];exact step ⟨by omega,by omega,by omega,by omega,fun _=>by unfold dyLt;omega⟩
theorem yK1 (l:List Dy) (hl:l.length≤1000000):oE (dB.f l) (dwi l):=by have:=wD2 l hl _ 0 rfl (uH2 _);rw[eI2]at this;rw[dB.f_eq];exact this.iff ⟨fun h=>⟨fun j h2=>h.1 j (uH2 _) h2,h.2⟩,fun h=>⟨fun j _ h2=>h.1 j h2,h.2⟩⟩
theorem jN1 (l:List Dy) (hl:l.length≤1000000):oE (yC.f l) (∃j,j<l.length∧(gD l j).1≠0):=by
 have key:∀(k i:Nat),l.length-i=k→i≤l.length→oE (yC.l1 l i) (∃j,i≤j∧j<l.length∧(gD l j).1≠0):=by
  intro k
  induction k with
  | zero=>
   intro i hk hil;rw[yC.l1_eq];simp(disch:=omega)only[ss];exact⟨false,rfl,by simp;intro j h1 h2;omega⟩
  | succ k ih=>
   intro i hk hil;have hlt:i<l.length:=by omega
   have hg:l.getD i ((0,0,()):Int×Int×Unit)=gD l i:=rfl;rw[yC.l1_eq];simp(disch:=omega)only[ss,hg];by_cases c:(gD l i).1=0
   ·rw[dp c];simp(disch:=omega)only[ss];refine(ih (i+1) (by omega) (by omega)).iff ⟨fun⟨j,h1,h2,h3⟩=>⟨j,by omega,h2,h3⟩,fun⟨j,h1,h2,h3⟩=>⟨j,?_,h2,h3⟩⟩;by_cases e:j=i
    ·subst e;exact absurd c h3
    ·omega
   ·rw[dn c];simp(disch:=omega)only[ss];exact⟨true,rfl,by simp;exact⟨i,yH2 _,hlt,c⟩⟩
 have:=key _ 0 rfl (uH2 _);rw[eI2]at this;rw[yC.f_eq];exact this.iff ⟨fun⟨j,_,h⟩=>⟨j,h⟩,fun⟨j,h⟩=>⟨j,uH2 _,h⟩⟩
abbrev Rl :=Int×Int×Int×Int×Int×Bool×List Int×List Int×List Int×List Int×List Dy×List Int×List Int×List Int×List Int×Unit
def Gate (f:Option (Bool×Unit)) (p:Prop) (K:Option (Bool×Unit)):Prop:=(p→f=K)∧(¬p→f=some (false,()))
theorem Gate.iff {f K:Option (Bool×Unit)} {p q:Prop} (h:Gate f p K) (e:p↔q):Gate f q K:=⟨fun x=>h.1 (e.2 x),fun x=>h.2 fun y=>x (e.1 y)⟩
theorem Gate.eq {f g K:Option (Bool×Unit)} {p:Prop} (h:Gate f p K) (k:Gate g p K):f=g:=by
 by_cases hp:p
 ·rw[h.1 hp,k.1 hp]
 ·rw[h.2 hp,k.2 hp]
theorem gI {f g K:Option (Bool×Unit)} {p q:Prop} (h:oE f p) (k:Gate g q K):Gate (f.bind fun t=>bif !t.1 then some (false,())else g) (p∧q) K:=by
 obtain⟨b,h1,h2⟩:=h;rw[h1];simp only[pH2]
 cases b with
 | true=>exact⟨fun x=>k.1 x.2,fun x=>k.2 fun y=>x ⟨h2.1 rfl,y⟩⟩
 | false=>exact⟨fun x=>absurd (h2.2 x.1) (by simp),fun _=>rfl⟩
theorem dJ {f g:Option (Bool×Unit)} {p q:Prop} (h:oE f p) (k:oE g q):oE (f.bind fun t=>bif t.1 then g else some (false,())) (p∧q):=by
 obtain⟨b,h1,h2⟩:=h;obtain⟨c,k1,k2⟩:=k;rw[h1];simp only[pH2]
 cases b with
 | true=>rw[cond_true];exact⟨c,k1,⟨fun x=>⟨h2.1 rfl,k2.1 x⟩,fun x=>k2.2 x.2⟩⟩
 | false=>exact⟨false,rfl,⟨fun x=>by simp at x,fun x=>absurd (h2.2 x.1) (by simp)⟩⟩
theorem rM1 {f:Option (Bool×Unit)} {p:Prop} (h:oE f p):oE (f.bind fun t=>some (t.1,())) p:=by obtain⟨b,h1,h2⟩:=h;exact⟨b,by rw[h1];rfl,h2⟩
def numd (f:Int) (we:List Int) (l:List Dy) (j:Nat):Prop:=(gD l j).1≠0→f=2∨f=1∧we.length=0
section
variable (f iv ct un wk : Int) (en : Bool) (mo we yd md : List Int) (dy : List Dy) (ho mi se po : List Int)
theorem qW1 (hl:dy.length≤1000000) (hw:we.length≤1000000):∀(k i:Nat),dy.length-i=k→i≤dy.length→(∀j,j<i→okD dy j) →
  oE (fB.l1 dy dy.length i f iv ct un wk en mo we yd md dy ho mi se po) ((∀j,i≤j→j<dy.length→okD dy j∧numd f we dy j)∧dy.length≤60):=by
 intro k
 induction k with
 | zero=>
  intro i hk hil hpre;rw[fB.l1_eq];simp(disch:=omega)only[ss];refine⟨_,rfl,?_⟩;rw[decide_eq_true_eq];exact⟨fun h=>⟨fun j h1 h2=>by omega,by omega⟩,fun h=>by omega⟩
 | succ k ih=>
  intro i hk hil hpre;have hlt:i<dy.length:=by omega
  have hg:dy.getD i ((0,0,()):Int×Int×Unit)=gD dy i:=rfl;have hg1:dy.getD (i-1) ((0,0,()):Int×Int×Unit)=gD dy (i-1):=rfl;have stop:¬(okD dy i∧numd f we dy i)→oE (some (false,())) ((∀j,i≤j→j<dy.length→okD dy j∧numd f we dy j)∧dy.length≤60):=fun h=>
   ⟨false,rfl,by simp;intro q;exact absurd (q i (yH2 _) hlt) h⟩
  have go:okD dy i→numd f we dy i→oE (fB.l3 dy dy.length i false f iv ct un wk en mo we yd md dy ho mi se po) ((∀j,i≤j→j<dy.length→okD dy j∧numd f we dy j)∧dy.length≤60):=fun h h'=>by
   rw[fB.l3_eq];simp(disch:=omega)only[ss];refine(ih (i+1) (by omega) (by omega) fun j hj=>?_).iff ⟨fun q=>⟨fun j h1 h2=>?_,q.2⟩,fun q=>⟨fun j h1 h2=>q.1 j (by omega) h2,q.2⟩⟩
   ·by_cases e:j=i
    ·subst e;exact h
    ·exact hpre j (by omega)
   ·by_cases e:j=i
    ·subst e;exact⟨h,h'⟩
    ·exact q.1 j (by omega) h2
  have l3t:fB.l3 dy dy.length i true f iv ct un wk en mo we yd md dy ho mi se po=some (false,()):=by rw[fB.l3_eq,cond_true]
  have bad:∀a b,¬okD dy i→oE (fB.l2 dy dy.length i true f iv ct un wk en mo we yd md dy ho mi se po a b) ((∀j,i≤j→j<dy.length→okD dy j∧numd f we dy j)∧dy.length≤60):=fun a b h=>by rw[fB.l2_eq,cond_true];exact stop fun q=>h q.1
  have good:okD dy i→oE (fB.l2 dy dy.length i false f iv ct un wk en mo we yd md dy ho mi se po (gD dy i).1 (gD dy i).2.1) ((∀j,i≤j→j<dy.length→okD dy j∧numd f we dy j)∧dy.length≤60):=fun h=>by
   rw[fB.l2_eq,cond_false];by_cases c1:(gD dy i).1=0
   ·simp(disch:=omega)only[ss];exact go h fun q=>absurd c1 q
   ·by_cases c2:f=2
    ·simp(disch:=omega)only[ss];exact go h fun _=>.inl c2
    ·by_cases c3:f=1
     ·by_cases c4:(we.length:Int)>0
      ·simp(disch:=omega)only[ss,l3t];exact stop fun q=>by rcases q.2 c1 with q | q <;> omega
      ·simp(disch:=omega)only[ss];exact go h fun _=>.inr ⟨c3,by omega⟩
     ·simp(disch:=omega)only[ss,l3t];exact stop fun q=>by rcases q.2 c1 with q | q <;> omega
  rw[fB.l1_eq];simp(disch:=omega)only[ss,hg];by_cases c1:(gD dy i).1 < -53
  ·rw[dp c1,cond_true];exact bad _ _ fun q=>by have:=q.1;omega
  ·by_cases c2:(gD dy i).1>53
   ·rw[dn c1,dp c2,cond_false,cond_true];exact bad _ _ fun q=>by have:=q.2.1;omega
   ·by_cases c3:(gD dy i).2.1<0
    ·rw[dn c1,dn c2,dp c3,cond_false,cond_false,cond_true];exact bad _ _ fun q=>by have:=q.2.2.1;omega
    ·by_cases c4:(gD dy i).2.1>6
     ·rw[dn c1,dn c2,dn c3,dp c4,cond_false,cond_false,cond_false,cond_true];exact bad _ _ fun q=>by have:=q.2.2.2.1;omega
     ·rw[dn c1,dn c2,dn c3,dn c4,cond_false,cond_false,cond_false,cond_false];by_cases h0:i=0
      ·simp(disch:=omega)only[ss];exact good ⟨by omega,by omega,by omega,by omega,fun q=>by omega⟩
      ·have hp:=hpre (i-1) (by omega);have b1:=hp.1;have b2:=hp.2.1;have b3:=hp.2.2.1;have b4:=hp.2.2.2.1;simp(disch:=omega)only[ss,hg1,aO.f_eq];by_cases c6:(gD dy (i-1)).1=(gD dy i).1
       ·simp(disch:=omega)only[ss];by_cases c7:(gD dy (i-1)).2.1-(gD dy i).2.1≥0
        ·rw[dp c7];exact bad _ _ fun q=>by have:=q.2.2.2.2 (by omega);unfold dyLt at this;omega
        ·rw[dn c7];exact good ⟨by omega,by omega,by omega,by omega,fun _=>by unfold dyLt;omega⟩
       ·simp(disch:=omega)only[ss];by_cases c7:(gD dy (i-1)).1-(gD dy i).1≥0
        ·rw[dp c7];exact bad _ _ fun q=>by have:=q.2.2.2.2 (by omega);unfold dyLt at this;omega
        ·rw[dn c7];exact good ⟨by omega,by omega,by omega,by omega,fun _=>by unfold dyLt;omega⟩
def fE1 :Prop:=wi mo 1 12 false∧wi we (-53) 53 false∧wi yd (-366) 366 false∧wi md (-31) 31 false∧wi ho 0 23 true∧wi mi 0 59 true∧wi se 0 59 true∧wi po (-366) 366 false∧(dwi dy ∧ ∀j,j<dy.length→numd f we dy j)
def wQ :Prop:=mo.length≤100000∧we.length≤100000∧yd.length≤100000∧md.length≤100000∧dy.length≤100000∧ho.length≤100000∧mi.length≤100000∧se.length≤100000∧po.length≤100000
theorem oZ (h:wQ mo we yd md dy ho mi se po):oE (iH.f (f,iv,ct,un,wk,en,mo,we,yd,md,dy,ho,mi,se,po,())) (fE1 f mo we yd md dy ho mi se po):=by
 obtain⟨h1,h2,h3,h4,h5,h6,h7,h8,h9⟩:=h;have hD:=qW1 f iv ct un wk en mo we yd md dy ho mi se po (by omega) (by omega) _ 0 rfl (uH2 _) fun j hj=>by omega
 rw[eI2]at hD;have hD2:oE (fB.f (f,iv,ct,un,wk,en,mo,we,yd,md,dy,ho,mi,se,po,())) (dwi dy ∧ ∀j,j<dy.length→numd f we dy j):=by rw[fB.f_eq];exact hD.iff ⟨fun q=>⟨⟨fun j hj=>(q.1 j (uH2 _) hj).1,q.2⟩,fun j hj=>(q.1 j (uH2 _) hj).2⟩,fun q=>⟨fun j _ hj=>⟨q.1.1 j hj,q.2 j hj⟩,q.1.2⟩⟩
 rw[iH.f_eq];exact dJ (aH mo 1 12 false (by omega)) (dJ (aH we (-53) 53 false (by omega)) (dJ (aH yd (-366) 366 false (by omega)) (dJ (aH md (-31) 31 false (by omega)) (dJ (aH ho 0 23 true (by omega)) (dJ (aH mi 0 59 true (by omega)) (dJ (aH se 0 59 true (by omega)) (dJ (aH po (-366) 366 false (by omega)) (rM1 hD2))))))))
def numP :Prop:=(1≤f∧f≤7∧1≤iv∧iv≤1000∧0≤ct∧ct≤4096∧0≤wk∧wk≤6)∧(en=true→(-62135596800≤un∧un≤253402300799)∧ct=0)∧(en=false→un=0)
theorem yQ1 :oE (gC.f (f,iv,ct,un,wk,en,mo,we,yd,md,dy,ho,mi,se,po,())) (numP f iv ct un wk en):=by
 have l1t:gC.l1 true f iv ct un wk en mo we yd md dy ho mi se po=some (false,()):=by rw[gC.l1_eq,cond_true]
 have no:¬(1≤f∧f≤7∧1≤iv∧iv≤1000∧0≤ct∧ct≤4096∧0≤wk∧wk≤6)→oE (some (false,())) (numP f iv ct un wk en):=fun h=>⟨false,rfl,⟨fun q=>by simp at q,fun q=>absurd q.1 h⟩⟩
 rw[gC.f_eq];dsimp only;by_cases c:1≤f∧f≤7∧1≤iv∧iv≤1000∧0≤ct∧ct≤4096∧0≤wk∧wk≤6
 ·obtain⟨c1,c2,c3,c4,c5,c6,c7,c8⟩:=c;simp(disch:=omega)only[ss,gC.l1_eq,iL.f_eq]
  cases en with
  | true=>
   simp(disch:=omega)only[ss];by_cases d1:un ≥ -62135596800
   ·by_cases d2:un≤253402300799
    ·simp(disch:=omega)only[ss];refine⟨_,rfl,?_⟩;rw[decide_eq_true_eq];exact⟨fun q=>⟨⟨c1,c2,c3,c4,c5,c6,c7,c8⟩,fun _=>⟨⟨by omega,d2⟩,q⟩,fun q=>by cases q⟩,fun q=>(q.2.1 rfl).2⟩
    ·simp(disch:=omega)only[ss];exact⟨false,rfl,⟨fun q=>by simp at q,fun q=>by have:=(q.2.1 rfl).1;omega⟩⟩
   ·simp(disch:=omega)only[ss];exact⟨false,rfl,⟨fun q=>by simp at q,fun q=>by have:=(q.2.1 rfl).1;omega⟩⟩
  | false=>
   simp(disch:=omega)only[ss];refine⟨_,rfl,?_⟩;rw[decide_eq_true_eq];exact⟨fun q=>⟨⟨c1,c2,c3,c4,c5,c6,c7,c8⟩,(fun q=>by cases q),fun _=>q⟩,fun q=>q.2.2 rfl⟩
 ·have hb:∀{p:Prop} [Decidable p] {x:Option (Bool×Unit)},(¬p→oE x (numP f iv ct un wk en))→(p→oE (some (false,())) (numP f iv ct un wk en))→oE (bif decide p then(some (false,()))else x) (numP f iv ct un wk en):=fun {p} _ {x} h1 h2=>by
   by_cases hp:p
   ·rw[dp hp,cond_true];exact h2 hp
   ·rw[dn hp,cond_false];exact h1 hp
  have hn:=no c;rw[l1t];refine hb (fun d1=>hb (fun d2=>hb (fun d3=>hb (fun d4=>hb (fun d5=>hb (fun d6=>hb (fun d7=>?_) fun _=>hn) fun _=>hn) fun _=>hn) fun _=>hn) fun _=>hn) fun _=>hn) fun _=>hn
  have:wk>6:=by omega
  rw[dp this,l1t];exact hn
def mayP :Prop:=numP f iv ct un wk en∧fE1 f mo we yd md dy ho mi se po∧(0<we.length→f=1)∧(0<yd.length → ¬(2≤f∧f≤4))∧(0<md.length→f≠3)
theorem fC1 (h:wQ mo we yd md dy ho mi se po):Gate (wA.f (f,iv,ct,un,wk,en,mo,we,yd,md,dy,ho,mi,se,po,())) (mayP f iv ct un wk en mo we yd md dy ho mi se po) (wA.l5 f iv ct un wk en mo we yd md dy ho mi se po):=by
 have l1t:wA.l1 true f iv ct un wk en mo we yd md dy ho mi se po=some (false,()):=by rw[wA.l1_eq,cond_true]
 have l2t:wA.l2 true f iv ct un wk en mo we yd md dy ho mi se po=some (false,()):=by rw[wA.l2_eq,cond_true]
 have l3t:wA.l3 true f iv ct un wk en mo we yd md dy ho mi se po=some (false,()):=by rw[wA.l3_eq,cond_true]
 have l4t:wA.l4 true f iv ct un wk en mo we yd md dy ho mi se po=some (false,()):=by rw[wA.l4_eq,cond_true]
 have l4f:wA.l4 false f iv ct un wk en mo we yd md dy ho mi se po=wA.l5 f iv ct un wk en mo we yd md dy ho mi se po:=by rw[wA.l4_eq,cond_false]
 have g3:Gate (wA.l3 false f iv ct un wk en mo we yd md dy ho mi se po) (0<md.length→f≠3) (wA.l5 f iv ct un wk en mo we yd md dy ho mi se po):=by
  rw[wA.l3_eq,cond_false];by_cases c:(md.length:Int)>0
  ·rw[dp c,cond_true];by_cases c2:f=3
   ·rw[dp c2,l4t];exact⟨fun q=>absurd c2 (q (by omega)),fun _=>rfl⟩
   ·rw[dn c2,l4f];exact⟨fun _=>rfl,fun q=>absurd (fun _=>c2) q⟩
  ·rw[dn c,cond_false,l4f];exact⟨fun _=>rfl,fun q=>absurd (fun x=>by omega) q⟩
 have g2:Gate (wA.l2 false f iv ct un wk en mo we yd md dy ho mi se po) ((0<yd.length → ¬(2≤f∧f≤4))∧(0<md.length→f≠3)) (wA.l5 f iv ct un wk en mo we yd md dy ho mi se po):=by
  rw[wA.l2_eq,cond_false];by_cases c:(yd.length:Int)>0
  ·rw[dp c,cond_true];by_cases c2:f≥2
   ·rw[dp c2,cond_true];by_cases c3:f≤4
    ·rw[dp c3,l3t];exact⟨fun q=>absurd ⟨by omega,c3⟩ (q.1 (by omega)),fun _=>rfl⟩
    ·rw[dn c3];exact g3.iff ⟨fun q=>⟨fun _=>by omega,q⟩,fun q=>q.2⟩
   ·rw[dn c2,cond_false];exact g3.iff ⟨fun q=>⟨fun _=>by omega,q⟩,fun q=>q.2⟩
  ·rw[dn c,cond_false];exact g3.iff ⟨fun q=>⟨fun x=>by omega,q⟩,fun q=>q.2⟩
 have g1:Gate (wA.l1 false f iv ct un wk en mo we yd md dy ho mi se po) ((0<we.length→f=1)∧(0<yd.length → ¬(2≤f∧f≤4))∧(0<md.length→f≠3)) (wA.l5 f iv ct un wk en mo we yd md dy ho mi se po):=by
  rw[wA.l1_eq,cond_false];by_cases c:(we.length:Int)>0
  ·rw[dp c,cond_true];by_cases c2:f=1
   ·rw[dp c2,cJ2];exact g2.iff ⟨fun q=>⟨fun _=>c2,q⟩,fun q=>q.2⟩
   ·rw[dn c2,zJ2,l2t];exact⟨fun q=>absurd (q.1 (by omega)) c2,fun _=>rfl⟩
  ·rw[dn c,cond_false];exact g2.iff ⟨fun q=>⟨fun x=>by omega,q⟩,fun q=>q.2⟩
 have hL:Gate ((iH.f (f,iv,ct,un,wk,en,mo,we,yd,md,dy,ho,mi,se,po,())).bind fun t2=>wA.l1 (!t2.1) f iv ct un wk en mo we yd md dy ho mi se po) (fE1 f mo we yd md dy ho mi se po∧(0<we.length→f=1)∧(0<yd.length → ¬(2≤f∧f≤4))∧(0<md.length→f≠3)) (wA.l5 f iv ct un wk en mo we yd md dy ho mi se po):=by
  have:=gI (oZ f iv ct un wk en mo we yd md dy ho mi se po h) g1;obtain⟨b,h1,_⟩:=oZ f iv ct un wk en mo we yd md dy ho mi se po h;rw[h1]at this ⊢;simp only[pH2]at this ⊢
  cases b with
  | true=>exact this
  | false=>rw[zJ2,l1t];exact this
 rw[wA.f_eq];have:=gI (yQ1 f iv ct un wk en mo we yd md dy ho mi se po) hL;simp only[l1t];exact this
end
theorem fR {K:Option (Bool×Unit)} {p:Prop} (h:¬p):Gate (some (false,())) p K:=⟨fun q=>absurd q h,fun _=>rfl⟩
theorem cE2 (l:List Int) (hi:Int) (z:Bool):wi l 1 hi z↔wi l 1 hi false:=by
 unfold wi;constructor
 ·exact fun h=>⟨fun j hj=>⟨⟨(h.1 j hj).1.1,(h.1 j hj).1.2.1,fun q=>by have:=(h.1 j hj).1.1;omega⟩,(h.1 j hj).2⟩,h.2⟩
 ·exact fun h=>⟨fun j hj=>⟨⟨(h.1 j hj).1.1,(h.1 j hj).1.2.1,fun q=>by have:=(h.1 j hj).1.1;omega⟩,(h.1 j hj).2⟩,h.2⟩
section
variable (f iv ct un wk : Int) (en : Bool) (mo we yd md : List Int) (dy : List Dy) (ho mi se po : List Int)
theorem vF2 (h:wQ mo we yd md dy ho mi se po):Gate (bA.f (f,iv,ct,un,wk,en,mo,we,yd,md,dy,ho,mi,se,po,())) (mayP f iv ct un wk en mo we yd md dy ho mi se po) (bA.l8 f iv ct un wk en mo we yd md dy ho mi se po):=by
 obtain⟨h1,h2,h3,h4,h5,h6,h7,h8,h9⟩:=h;have l1t:bA.l1 true f iv ct un wk en mo we yd md dy ho mi se po=some (false,()):=by rw[bA.l1_eq,cond_true]
 have l2t:bA.l2 true f iv ct un wk en mo we yd md dy ho mi se po=some (false,()):=by rw[bA.l2_eq,cond_true]
 have l2f:bA.l2 false f iv ct un wk en mo we yd md dy ho mi se po=bA.l3 f iv ct un wk en mo we yd md dy ho mi se po:=by rw[bA.l2_eq,cond_false]
 have l4t:bA.l4 true f iv ct un wk en mo we yd md dy ho mi se po=some (false,()):=by rw[bA.l4_eq,cond_true]
 have l5t:bA.l5 true f iv ct un wk en mo we yd md dy ho mi se po=some (false,()):=by rw[bA.l5_eq,cond_true]
 have l5f:bA.l5 false f iv ct un wk en mo we yd md dy ho mi se po=bA.l6 f iv ct un wk en mo we yd md dy ho mi se po:=by rw[bA.l5_eq,cond_false]
 have l7t:bA.l7 true f iv ct un wk en mo we yd md dy ho mi se po=some (false,()):=by rw[bA.l7_eq,cond_true]
 have l7f:bA.l7 false f iv ct un wk en mo we yd md dy ho mi se po=bA.l8 f iv ct un wk en mo we yd md dy ho mi se po:=by rw[bA.l7_eq,cond_false]
 have g6:Gate (bA.l6 f iv ct un wk en mo we yd md dy ho mi se po) (∀j,j<dy.length→numd f we dy j) (bA.l8 f iv ct un wk en mo we yd md dy ho mi se po):=by
  rw[bA.l6_eq];obtain⟨b,e1,e2⟩:=jN1 dy (by omega);rw[e1];simp only[pH2]
  cases b with
  | false=>
   rw[cond_false,l7f];have:∀j,j<dy.length→numd f we dy j:=fun j hj hn=>absurd (e2.2 ⟨j,hj,hn⟩) (by simp)
   exact⟨fun _=>rfl,fun q=>absurd this q⟩
  | true=>
   obtain⟨j,hj,hn⟩:=e2.1 rfl;rw[cond_true];by_cases c2:f=2
   ·simp(disch:=omega)only[ss,l7f];exact⟨fun _=>rfl,fun q=>absurd (fun _ _ _=>.inl c2) q⟩
   ·by_cases c3:f=1
    ·by_cases c4:(we.length:Int)>0
     ·simp(disch:=omega)only[ss,l7t];exact fR fun q=>by rcases q j hj hn with q | q <;> omega
     ·simp(disch:=omega)only[ss,l7f];exact⟨fun _=>rfl,fun q=>absurd (fun _ _ _=>.inr ⟨c3,by omega⟩) q⟩
    ·simp(disch:=omega)only[ss,l7t];exact fR fun q=>by rcases q j hj hn with q | q <;> omega
 have g4:Gate (bA.l4 false f iv ct un wk en mo we yd md dy ho mi se po) (((0<we.length→f=1)∧(0<yd.length → ¬(2≤f∧f≤4))∧(0<md.length→f≠3)) ∧ ∀j,j<dy.length→numd f we dy j) (bA.l8 f iv ct un wk en mo we yd md dy ho mi se po):=by
  have hm:((0<we.length→f=1)∧(0<yd.length → ¬(2≤f∧f≤4)))→Gate (bif decide ((md.length:Int)>0)then(bA.l5 (decide (f=3)) f iv ct un wk en mo we yd md dy ho mi se po)else(bA.l5 false f iv ct un wk en mo we yd md dy ho mi se po)) (((0<we.length→f=1)∧(0<yd.length → ¬(2≤f∧f≤4))∧(0<md.length→f≠3)) ∧ ∀j,j<dy.length→numd f we dy j) (bA.l8 f iv ct un wk en mo we yd md dy ho mi se po):=fun hh=>by
   by_cases c:(md.length:Int)>0
   ·rw[dp c,cond_true];by_cases c2:f=3
    ·rw[dp c2,l5t];exact fR fun q=>q.1.2.2 (by omega) c2
    ·rw[dn c2,l5f];exact g6.iff ⟨fun q=>⟨⟨hh.1,hh.2,fun _=>c2⟩,q⟩,fun q=>q.2⟩
   ·rw[dn c,cond_false,l5f];exact g6.iff ⟨fun q=>⟨⟨hh.1,hh.2,fun x=>by omega⟩,q⟩,fun q=>q.2⟩
  have hy:(0<we.length→f=1)→Gate (bif decide ((yd.length:Int)>0)then(bif decide (f≥2)then(bif decide (f≤4)then(bA.l5 true f iv ct un wk en mo we yd md dy ho mi se po)else(bif decide ((md.length:Int)>0)then(bA.l5 (decide (f=3)) f iv ct un wk en mo we yd md dy ho mi se po)else(bA.l5 false f iv ct un wk en mo we yd md dy ho mi se po)))else(bif decide ((md.length:Int)>0)then(bA.l5 (decide (f=3)) f iv ct un wk en mo we yd md dy ho mi se po)else(bA.l5 false f iv ct un wk en mo we yd md dy ho mi se po)))else(bif decide ((md.length:Int)>0)then(bA.l5 (decide (f=3)) f iv ct un wk en mo we yd md dy ho mi se po)else(bA.l5 false f iv ct un wk en mo we yd md dy ho mi se po))) (((0<we.length→f=1)∧(0<yd.length → ¬(2≤f∧f≤4))∧(0<md.length→f≠3)) ∧ ∀j,j<dy.length→numd f we dy j) (bA.l8 f iv ct un wk en mo we yd md dy ho mi se po):=fun hh=>by
   by_cases c:(yd.length:Int)>0
   ·rw[dp c,cond_true];by_cases c2:f≥2
    ·rw[dp c2,cond_true];by_cases c3:f≤4
     ·rw[dp c3,cond_true,l5t];exact fR fun q=>q.1.2.1 (by omega) ⟨by omega,c3⟩
     ·rw[dn c3,cond_false];exact hm ⟨hh,fun _=>by omega⟩
    ·rw[dn c2,cond_false];exact hm ⟨hh,fun _=>by omega⟩
   ·rw[dn c,cond_false];exact hm ⟨hh,fun x=>by omega⟩
  rw[bA.l4_eq,cond_false];by_cases c:(we.length:Int)>0
  ·rw[dp c,cond_true];by_cases c2:f=1
   ·rw[dp c2,cJ2,cond_false];exact hy fun _=>c2
   ·rw[dn c2,zJ2,cond_true,l5t];exact fR fun q=>c2 (q.1.1 (by omega))
  ·rw[dn c,cond_false];exact hy fun x=>by omega
 have g3:Gate (bA.l3 f iv ct un wk en mo we yd md dy ho mi se po) (wi mo 1 12 true∧wi we (-53) 53 false∧wi yd (-366) 366 false∧wi md (-31) 31 false∧wi po (-366) 366 false∧wi ho 0 23 true∧wi mi 0 59 true∧wi se 0 59 true∧dwi dy∧(((0<we.length→f=1)∧(0<yd.length → ¬(2≤f∧f≤4))∧(0<md.length→f≠3)) ∧ ∀j,j<dy.length→numd f we dy j)) (bA.l8 f iv ct un wk en mo we yd md dy ho mi se po):=by
  have hlast:∀{q:Prop},Gate (bA.l4 false f iv ct un wk en mo we yd md dy ho mi se po) q (bA.l8 f iv ct un wk en mo we yd md dy ho mi se po)→Gate ((dB.f dy).bind fun t10=>bA.l4 (!t10.1) f iv ct un wk en mo we yd md dy ho mi se po) (dwi dy∧q) (bA.l8 f iv ct un wk en mo we yd md dy ho mi se po):=fun {q} hq=>by
   have:=gI (yK1 dy (by omega)) hq;obtain⟨b,e1,_⟩:=yK1 dy (by omega);rw[e1]at this ⊢;simp only[pH2]at this ⊢
   cases b with
   | true=>exact this
   | false=>rw[zJ2,l4t];exact this
  rw[bA.l3_eq];simp only[l4t];exact gI (mG mo 1 12 true (by omega)) (gI (mG we (-53) 53 false (by omega)) (gI (mG yd (-366) 366 false (by omega)) (gI (mG md (-31) 31 false (by omega)) (gI (mG po (-366) 366 false (by omega)) (gI (mG ho 0 23 true (by omega)) (gI (mG mi 0 59 true (by omega)) (gI (mG se 0 59 true (by omega)) (hlast g4))))))))
 have g3':=g3.iff (q:=fE1 f mo we yd md dy ho mi se po∧(0<we.length→f=1)∧(0<yd.length → ¬(2≤f∧f≤4))∧(0<md.length→f≠3)) (by
  rw[cE2 mo 12 true];unfold fE1;constructor
  ·rintro⟨a1,a2,a3,a4,a5,a6,a7,a8,a9,a10,a11⟩;exact⟨⟨a1,a2,a3,a4,a6,a7,a8,a5,a9,a11⟩,a10⟩
  ·rintro⟨⟨a1,a2,a3,a4,a6,a7,a8,a5,a9,a11⟩,a10⟩
   exact⟨a1,a2,a3,a4,a5,a6,a7,a8,a9,a10,a11⟩)
 have no:¬numP f iv ct un wk en→Gate (some (false,())) (mayP f iv ct un wk en mo we yd md dy ho mi se po) (bA.l8 f iv ct un wk en mo we yd md dy ho mi se po):=fun hn=>fR fun q=>hn q.1
 have yes:numP f iv ct un wk en→Gate (bA.l3 f iv ct un wk en mo we yd md dy ho mi se po) (mayP f iv ct un wk en mo we yd md dy ho mi se po) (bA.l8 f iv ct un wk en mo we yd md dy ho mi se po):=fun hn=>g3'.iff ⟨fun q=>⟨hn,q⟩,fun q=>q.2⟩
 rw[bA.f_eq];dsimp only;by_cases c:1≤f∧f≤7∧1≤iv∧iv≤1000∧0≤ct∧ct≤4096∧0≤wk∧wk≤6
 ·have c':=c;obtain⟨c1,c2,c3,c4,c5,c6,c7,c8⟩:=c;simp(disch:=omega)only[ss,bA.l1_eq,zG.f_eq]
  cases en with
  | true=>
   simp(disch:=omega)only[ss];by_cases d0:ct>0
   ·simp(disch:=omega)only[ss,l2t];exact no fun q=>by have:=(q.2.1 rfl).2;omega
   ·by_cases d1:un ≥ -62135596800
    ·by_cases d2:un<253402300800
     ·simp(disch:=omega)only[ss,l2f];exact yes ⟨c',fun _=>⟨⟨by omega,by omega⟩,by omega⟩,fun q=>by cases q⟩
     ·simp(disch:=omega)only[ss,l2t];exact no fun q=>by have:=(q.2.1 rfl).1;omega
    ·simp(disch:=omega)only[ss,l2t];exact no fun q=>by have:=(q.2.1 rfl).1;omega
  | false=>
   by_cases d0:un=0
   ·simp(disch:=omega)only[ss,l2f];exact yes ⟨c',(fun q=>by cases q),fun _=>d0⟩
   ·simp(disch:=omega)only[ss,l2t];exact no fun q=>d0 (q.2.2 rfl)
 ·have hn:=no fun q=>c q.1
  have hb:∀{p:Prop} [Decidable p] {x:Option (Bool×Unit)},(¬p→Gate x (mayP f iv ct un wk en mo we yd md dy ho mi se po) (bA.l8 f iv ct un wk en mo we yd md dy ho mi se po))→Gate (bif decide p then(some (false,()))else x) (mayP f iv ct un wk en mo we yd md dy ho mi se po) (bA.l8 f iv ct un wk en mo we yd md dy ho mi se po):=fun {p} _ {x} h1=>by
   by_cases hp:p
   ·rw[dp hp,cond_true];exact hn
   ·rw[dn hp,cond_false];exact h1 hp
  rw[l1t];refine hb fun d1=>hb fun d2=>hb fun d3=>hb fun d4=>hb fun d5=>hb fun d6=>hb fun d7=>?_
  have:wk>6:=by omega
  rw[dp this,l1t];exact hn
theorem oQ1 :wA.l5 f iv ct un wk en mo we yd md dy ho mi se po=bA.l8 f iv ct un wk en mo we yd md dy ho mi se po:=by
 have e7:wA.l7 f iv ct un wk en mo we yd md dy ho mi se po=bA.l10 f iv ct un wk en mo we yd md dy ho mi se po:=by rw[wA.l7_eq,bA.l10_eq]
 have e6:∀b,wA.l6 b f iv ct un wk en mo we yd md dy ho mi se po=bA.l9 b f iv ct un wk en mo we yd md dy ho mi se po:=fun b=>by rw[wA.l6_eq,bA.l9_eq,e7]
 rw[wA.l5_eq,bA.l8_eq,e6,e6]
end
theorem kA1 (r:Rl) (h:wQ r.2.2.2.2.2.2.1 r.2.2.2.2.2.2.2.1 r.2.2.2.2.2.2.2.2.1 r.2.2.2.2.2.2.2.2.2.1 r.2.2.2.2.2.2.2.2.2.2.1 r.2.2.2.2.2.2.2.2.2.2.2.1 r.2.2.2.2.2.2.2.2.2.2.2.2.1 r.2.2.2.2.2.2.2.2.2.2.2.2.2.1 r.2.2.2.2.2.2.2.2.2.2.2.2.2.2.1):wA.f r=bA.f r:=by obtain⟨f,iv,ct,un,wk,en,mo,we,yd,md,dy,ho,mi,se,po,⟨⟩⟩:=r;have g1:=fC1 f iv ct un wk en mo we yd md dy ho mi se po h;rw[oQ1]at g1;exact g1.eq (vF2 f iv ct un wk en mo we yd md dy ho mi se po h)
theorem vA1 (r:Rl) (h:wQ r.2.2.2.2.2.2.1 r.2.2.2.2.2.2.2.1 r.2.2.2.2.2.2.2.2.1 r.2.2.2.2.2.2.2.2.2.1 r.2.2.2.2.2.2.2.2.2.2.1 r.2.2.2.2.2.2.2.2.2.2.2.1 r.2.2.2.2.2.2.2.2.2.2.2.2.1 r.2.2.2.2.2.2.2.2.2.2.2.2.2.1 r.2.2.2.2.2.2.2.2.2.2.2.2.2.2.1):∃b,wA.f r=some (b,()):=by
 obtain⟨f,iv,ct,un,wk,en,mo,we,yd,md,dy,ho,mi,se,po,⟨⟩⟩:=r;have g1:=fC1 f iv ct un wk en mo we yd md dy ho mi se po h;by_cases hp:mayP f iv ct un wk en mo we yd md dy ho mi se po
 ·rw[g1.1 hp,wA.l5_eq];have e7:∃b,wA.l7 f iv ct un wk en mo we yd md dy ho mi se po=some (b,()):=by
   rw[wA.l7_eq];cases decide (f>4)with
   | true=>exact⟨_,rfl⟩
   | false=>exact⟨_,rfl⟩
  have e6:∀c,∃b,wA.l6 c f iv ct un wk en mo we yd md dy ho mi se po=some (b,()):=fun c=>by
   rw[wA.l6_eq]
   cases c with
   | true=>exact⟨_,rfl⟩
   | false=>exact e7
  cases decide ((po.length:Int)>0)with
  | true=>exact e6 _
  | false=>exact e6 _
 ·exact⟨false,g1.2 hp⟩
def eR (y:Int):Bool:=decide (y%4=0)&&(!decide (y%100=0)||decide (y%400=0))
def mlen (y m:Int):Int:=if m=2 then(if eR y=true then 29 else 28)else if m=4∨m=6∨m=9∨m=11 then 30 else if 1≤m∧m≤12 then 31 else 0
def cumT (m:Int):Int:=if m≤1 then 0 else if m=2 then 31 else if m=3 then 59 else if m=4 then 90 else if m=5 then 120 else if m=6 then 151 else if m=7 then 181 else if m=8 then 212 else if m=9 then 243 else if m=10 then 273 else if m=11 then 304 else if m=12 then 334 else 365
def cum (y m:Int):Int:=cumT m+if 3≤m∧eR y=true then 1 else 0
def fst_ (y:Int):Int:=365*(y-1)+(y-1)/4-(y-1)/100+(y-1)/400-719162
theorem tmn {n:Int} (h:0≤n) (k:Int):Int.tmod n k=n%k:=mK2 h
theorem tdn {n:Int} (h:0≤n) (k:Int):Int.tdiv n k=n/k:=Int.tdiv_eq_ediv_of_nonneg h
theorem wD1 (y:Int) (hy:0≤y):vJ.f y=some (eR y,()):=by
 rw[vJ.f_eq];simp only[tmn hy];unfold eR;by_cases h1:y%4=0
 ·by_cases h2:y%100=0
  ·by_cases h3:y%400=0
   ·simp(disch:=omega)only[ss]
   ·simp(disch:=omega)only[ss]
  ·simp(disch:=omega)only[ss]
 ·simp(disch:=omega)only[ss]
theorem zM1 (y:Int) (hy:0≤y):aJ.f y=some (eR y,()):=by have:=wD1 y hy;rw[vJ.f_eq]at this;rw[aJ.f_eq];exact this
theorem cP (y m:Int) (hy:0≤y):aC.f y m=some (mlen y m,()):=by
 have hL:=wD1 y hy;rw[aC.f_eq];unfold mlen;by_cases h2:m=2
 ·subst h2;simp(disch:=omega)only[ss,aC.l1_eq,hL];cases eR y <;> rfl
 ·rw[if_neg h2];by_cases h4:m=4∨m=6∨m=9∨m=11
  ·rw[if_pos h4];rcases h4 with rfl | rfl | rfl | rfl
   all_goals (simp(disch:=omega)only[ss,aC.l1_eq])
  ·rw[if_neg h4];by_cases hr:1≤m∧m≤12
   ·rw[if_pos hr];have:m=1∨m=3∨m=5∨m=7∨m=8∨m=10∨m=12:=by omega
    rcases this with rfl | rfl | rfl | rfl | rfl | rfl | rfl
    all_goals (simp(disch:=omega)only[ss,aC.l1_eq,aC.l2_eq])
   ·rw[if_neg hr];simp(disch:=omega)only[ss,aC.l1_eq,aC.l2_eq]
theorem uK (y m:Int) (hy:0≤y):cB.f y m=some (mlen y m,()):=by
 have hL:=zM1 y hy;rw[cB.f_eq];unfold mlen;by_cases h2:m=2
 ·subst h2;simp(disch:=omega)only[ss,cB.l1_eq,cB.l2_eq,hL];cases eR y <;> rfl
 ·rw[if_neg h2];by_cases h4:m=4∨m=6∨m=9∨m=11
  ·rw[if_pos h4];rcases h4 with rfl | rfl | rfl | rfl
   all_goals (simp(disch:=omega)only[ss,cB.l1_eq,cB.l2_eq])
  ·rw[if_neg h4];by_cases hr:1≤m∧m≤12
   ·rw[if_pos hr];have:m=1∨m=3∨m=5∨m=7∨m=8∨m=10∨m=12:=by omega
    rcases this with rfl | rfl | rfl | rfl | rfl | rfl | rfl
    all_goals (simp(disch:=omega)only[ss,cB.l1_eq])
   ·rw[if_neg hr];simp(disch:=omega)only[ss,cB.l1_eq,cB.l2_eq]
theorem qO (y m:Int):0≤mlen y m∧mlen y m≤31∧(0<mlen y m→1≤m∧m≤12):=by
 unfold mlen;split
 ·cases eR y <;> (simp;omega)
 ·split
  ·omega
  ·split <;> omega
theorem aM (y m:Int) (h1:1≤m) (h2:m≤12):cum y (m+1)=cum y m+mlen y m:=by
 have:m=1∨m=2∨m=3∨m=4∨m=5∨m=6∨m=7∨m=8∨m=9∨m=10∨m=11∨m=12:=by omega
 unfold cum mlen cumT;cases eR y <;> (rcases this with rfl | rfl | rfl | rfl | rfl | rfl | rfl | rfl | rfl | rfl | rfl | rfl <;> simp)
theorem nM (y m:Int):0≤cum y m∧cum y m≤366:=by unfold cum cumT;split <;> (try split) <;> (repeat' split) <;> omega
def nL (y m d:Int):Bool:=decide (1≤y)&&decide (y≤9999)&&decide (1≤d)&&decide (d≤mlen y m)
theorem yM1 (y m d:Int):kK.f y m d=some (nL y m d,())∧zH.f y m d=some (nL y m d,()):=by
 rw[kK.f_eq,eO.f_eq,zH.f_eq];unfold nL;by_cases h1:1≤y
 ·have hL:=cP y m (by omega);have hV:=uK y m (by omega);by_cases h2:y≤9999
  ·by_cases h3:1≤d
   ·simp(disch:=omega)only[ss,hL,hV,ge_iff_le];exact⟨trivial,trivial⟩
   ·simp(disch:=omega)only[ss,hL,hV,ge_iff_le];exact⟨trivial,trivial⟩
  ·simp(disch:=omega)only[ss,ge_iff_le];exact⟨trivial,trivial⟩
 ·simp(disch:=omega)only[ss,ge_iff_le];exact⟨trivial,trivial⟩
theorem qS (y m d:Int) (hy:1≤y) (hy2:y≤10000) (hm:1≤m) (hm2:m≤12) (hd:1≤d) (hd2:d≤31):sF.f y m d=some (fst_ y+d-1+cum y m,()):=by
 rw[sF.f_eq];by_cases h3:m<3
 ·simp(disch:=omega)only[ss,tdn (show 0≤y-1+400 by omega),tdn (show 0≤153*(m+12-3)+2 by omega)]
  congr 2
  unfold fst_ cum cumT;have:m=1∨m=2:=by omega
  rcases this with rfl | rfl
  ·simp;omega
  ·simp;omega
 ·simp(disch:=omega)only[ss,tdn (show 0≤y+400 by omega),tdn (show 0≤153*(m-3)+2 by omega)]
  congr 2
  unfold fst_ cum cumT
  have e:(if 3≤m∧eR y=true then(1:Int)else 0)=y/4-(y-1)/4-(y/100-(y-1)/100)+(y/400-(y-1)/400):=by
   unfold eR;by_cases h1:y%4=0
   ·by_cases h2:y%100=0
    ·by_cases h5:y%400=0
     ·rw[if_pos ⟨by omega,by simp[h1,h2,h5]⟩];omega
     ·rw[if_neg (by simp[h1,h2,h5])];omega
    ·rw[if_pos ⟨by omega,by simp[h1,h2]⟩];omega
   ·rw[if_neg (by simp[h1])];omega
  rw[e];have:m=3∨m=4∨m=5∨m=6∨m=7∨m=8∨m=9∨m=10∨m=11∨m=12:=by omega
  rcases this with rfl | rfl | rfl | rfl | rfl | rfl | rfl | rfl | rfl | rfl
  all_goals (simp;omega)
theorem kW (n k:Int) (hn:0≤n) (hn2:n≤1000000) (hk:0<k) (hk2:k≤1000):wF.f n k=some (n/k,()):=by have h1:0≤n%k:=Int.emod_nonneg n (by omega);have h2:0≤n/k:=Int.ediv_nonneg hn (by omega);have h3:n/k≤n:=Int.ediv_le_self k hn;rw[wF.f_eq,tmn hn,tdn hn];simp(disch:=omega)only[ss]
theorem tJ (y:Int) (hy:1≤y) (hy2:y≤10001):zE.f y=some (fst_ y,()):=by rw[zE.f_eq];have hw:w6 (y-1)=y-1:=wr (by omega) (by omega);rw[hw,kW (y-1) 4 (by omega) (by omega) (by omega) (by omega),kW (y-1) 100 (by omega) (by omega) (by omega) (by omega),kW (y-1) 400 (by omega) (by omega) (by omega) (by omega)];simp(disch:=omega)only[ss];rfl
theorem gS (y:Int) (hy:1≤y) (hy2:y≤10001): -1000000≤fst_ y∧fst_ y≤4000000:=by unfold fst_;omega
theorem uV1 (y m:Int) (hy:0≤y) (hm:m≤12):∀(k:Nat) (i n:Int),m-i=k→1≤i → -10000000≤n→n+cum y m-cum y i≤10000000 → -10000000≤n∧n≤10000000→nE.l1 y m n i=some (n+cum y m-cum y i,0,()):=by
 intro k
 induction k with
 | zero=>
  intro i n hk hi h1 h2 h3;have e:i=m:=by omega
  subst e;rw[nE.l1_eq];simp(disch:=omega)only[ss]
  congr 2
  omega
 | succ k ih=>
  intro i n hk hi h1 h2 h3;have hL:=uK y i hy;have hb:=qO y i;have hc:=aM y i hi (by omega);have hd:=nM y m;have he:=nM y i;have hg:=nM y (i+1);rw[nE.l1_eq];by_cases hn2:n+mlen y i≤10000000
  ·simp(disch:=omega)only[ss,hL];rw[ih (i+1) (n+mlen y i) (by omega) (by omega) (by omega) (by omega) ⟨by omega,hn2⟩]
   congr 2
   omega
  ·-- the bound holds where it is used
   simp(disch:=omega)only[ss,hL];have hm':cum y (i+1)≤cum y m:=by
    have mono:∀(j:Nat) (a:Int),1≤a→a+j≤12→cum y a≤cum y (a+j):=by
     intro j
     induction j with
     | zero=>intro a _ _;simp
     | succ j ihj=>
      intro a ha hj;have:=ihj a ha (by omega);have h5:=aM y (a+j) (by omega) (by omega);have h6:=qO y (a+j);rw[show a+((j+1:Nat):Int)=a+(j:Int)+1 by omega,h5];omega
    have:=mono k (i+1) (by omega) (by omega);rwa[show i+1+(k:Int)=m by omega]at this
   omega
theorem qD1 (y m d:Int):fL.f y m d=some (if nL y m d=true then(fst_ y+d-1+cum y m,0,())else(0,1,()))∧nE.f y m d=some (if nL y m d=true then(fst_ y+d-1+cum y m,0,())else(0,1,())):=by
 obtain⟨h1,h2⟩:=yM1 y m d;rw[fL.f_eq,nE.f_eq,h1,h2]
 cases hv:nL y m d with
 | false=>exact⟨rfl,rfl⟩
 | true=>
  unfold nL at hv;simp only[sH2,decide_eq_true_eq]at hv;obtain⟨⟨⟨h3,h4⟩,h5⟩,h6⟩:=hv;have hb:=qO y m;have hm:=hb.2.2 (by omega);have hN:=qS y m d h3 (by omega) hm.1 hm.2 h5 (by omega);have hF:=tJ y h3 (by omega);have hfb:=gS y h3 (by omega);have hcb:=nM y m;have hc1:cum y 1=0:=rfl;obtain⟨k,hk⟩:=wI2 (show 0≤m-1 by omega);have hD:=uV1 y m (by omega) hm.2 k 1 (fst_ y+d-1) hk (by omega) (by omega) (by omega) ⟨by omega,by omega⟩;rw[if_pos rfl];constructor
  ·simp(disch:=omega)only[ss,hN]
  ·simp(disch:=omega)only[ss,hF,hD]
   congr 2
   omega
theorem nD1 (y m d h mi s:Int) (hh:0≤h∧h≤10000) (hm:0≤mi∧mi≤10000) (hs:0≤s∧s≤10000):∃t e,xC.f y m d h mi s=some (t,e,())∧iC.f y m d h mi s=some (t,e,()):=by
 obtain⟨h1,h2⟩:=qD1 y m d;rw[xC.f_eq,iC.f_eq,h1,h2]
 cases hv:nL y m d with
 | false=>
  refine⟨0,1,?_,?_⟩
  ·simp(disch:=omega)only[ss,tI2,if_false,xC.l1_eq]
  ·simp(disch:=omega)only[ss,tI2,if_false,iC.l1_eq]
 | true=>
  unfold nL at hv;simp only[sH2,decide_eq_true_eq]at hv;obtain⟨⟨⟨h3,h4⟩,h5⟩,h6⟩:=hv;have hb:=qO y m;have hfb:=gS y h3 (by omega);have hcb:=nM y m;generalize fst_ y+d-1+cum y m=n at *;have hn: -20000000≤n∧n≤20000000∨True:=.inr trivial;by_cases c1:h>23
  ·exact⟨0,1,by simp(disch:=omega)only[ss,if_true,xC.l1_eq],by simp(disch:=omega)only[ss,if_true,iC.l1_eq]⟩
  ·by_cases c2:mi>59
   ·exact⟨0,1,by simp(disch:=omega)only[ss,if_true,xC.l1_eq],by simp(disch:=omega)only[ss,if_true,iC.l1_eq]⟩
   ·by_cases c3:s>59
    ·exact⟨0,1,by simp(disch:=omega)only[ss,if_true,xC.l1_eq],by simp(disch:=omega)only[ss,if_true,iC.l1_eq]⟩
    ·refine⟨_,0,by simp(disch:=omega)only[ss,if_true,xC.l1_eq];rfl,?_⟩;simp(disch:=omega)only[ss,if_true,iC.l1_eq];rw[Int.mul_comm h 3600,Int.mul_comm mi 60]
theorem xI :∀(l:List UInt8) (a:Nat),dval a l=a*10 ^ l.length+dval 0 l
 | [],a=>by show a=a*10 ^ 0+0;omega
 | c::l,a=>by
  show dval (10*a+(c.toNat-48)) l=_+dval (10*0+(c.toNat-48)) l;rw[Nat.mul_zero,wJ2,xI l (10*a+(c.toNat-48)),xI l (c.toNat-48),zH2,Nat.pow_succ,Nat.add_mul];have:a*(10 ^ l.length*10)=10*a*10 ^ l.length:=by rw[Nat.mul_comm (10 ^ l.length) 10,←Nat.mul_assoc,Nat.mul_comm a 10]
  omega
theorem uO (l:List UInt8) (h:∀c∈l,dig c):dval 0 l<10 ^ l.length:=by
 suffices g:∀(l:List UInt8) (a b:Nat),(∀c∈l,dig c)→a<b→dval a l<b*10 ^ l.length by have:=g l 0 1 h (by omega);omega
 intro l
 induction l with
 | nil=>intro a b _ h;show a<b*1;omega
 | cons c l ih=>
  intro a b hd hab;have hc:=hd c wH2;unfold dig at hc;have:=ih (10*a+(c.toNat-48)) (10*b) (fun x hx=>hd x (xH2 _ hx)) (by omega);show dval (10*a+(c.toNat-48)) l<_;rw[zH2,Nat.pow_succ,Nat.mul_comm (10 ^ l.length) 10,←Nat.mul_assoc,Nat.mul_comm b 10];exact this
def digs (l:List UInt8):Prop:=∀c∈l,dig c
theorem u8w {c:UInt8} (h:dig c):IntKind.u8.wrap ((c.toNat:Int)-48)=((c.toNat-48:Nat):Int):=by unfold dig at h;rw[Go.IntWalk.u8_in _ ⟨by omega,by omega⟩];omega
theorem xO1 (s:List UInt8) (hs:s.length≤10):∀(k i v:Nat),s.length-i=k→i≤s.length→v<10 ^ i →
  (digs (s.drop i)→oB.l1 (mkS s) v s.length i=some (((dval v (s.drop i):Nat):Int),true,()))∧(¬digs (s.drop i)→oB.l1 (mkS s) v s.length i=some (0,false,())) ∧
  (digs (s.drop i)→kB.l1 (mkS s) v i=some (((dval v (s.drop i):Nat):Int),()))∧(¬digs (s.drop i)→kB.l1 (mkS s) v i=some (-1,())):=by
 intro k
 induction k with
 | zero=>
  intro i v hk hi hv;have e:i=s.length:=by omega
  subst e;rw[oB.l1_eq,kB.l1_eq,fJ2];simp(disch:=omega)only[ss,szS];exact⟨fun _=>rfl,fun h=>absurd (fun c hc=>by cases hc) h,fun _=>rfl,fun h=>absurd (fun c hc=>by cases hc) h⟩
 | succ k ih=>
  intro i v hk hi hv;have hlt:i<s.length:=by omega
  have hbt:bt (mkS s) (i:Int)=((s.getD i 0).toNat:Int):=wH (mkS s) i;have hv2:v<10000000000:=bJ2 hv (Nat.pow_le_pow_right (by omega) (show i≤10 by omega));have hc:=eE2 (s.getD i 0);rw[oB.l1_eq,kB.l1_eq,oC 0 hlt];by_cases hd:dig (s.getD i 0)
  ·have hd':=hd;unfold dig at hd';have hw:=u8w hd;have e2:(10:Int)*(v:Int)+((s.getD i 0).toNat-48:Nat)=((10*v+((s.getD i 0).toNat-48):Nat):Int):=by omega
   simp(disch:=omega)only[ss,szS,hbt,oB.l2_eq,kB.l2_eq,hw];rw[e2];obtain⟨h1,h2,h3,h4⟩:=ih (i+1) (10*v+((s.getD i 0).toNat-48)) (by omega) (by omega) (by rw[Nat.pow_succ];omega);have hq:digs (s.getD i 0::s.drop (i+1))↔digs (s.drop (i+1)):=⟨fun h c hc=>h c (xH2 _ hc),fun h c hc=>(vH2.1 hc).elim (fun e=>e ▸ hd) (h c)⟩
   rw[hq];exact⟨h1,h2,h3,h4⟩
  ·have hq:¬digs (s.getD i 0::s.drop (i+1)):=fun h=>hd (h _ wH2)
   unfold dig at hd;by_cases c1:((s.getD i 0).toNat:Int)<48
   ·simp(disch:=omega)only[ss,szS,hbt,oB.l2_eq,kB.l2_eq];exact⟨fun h=>absurd h hq,fun _=>trivial,fun h=>absurd h hq,fun _=>trivial⟩
   ·simp(disch:=omega)only[ss,szS,hbt,oB.l2_eq,kB.l2_eq];exact⟨fun h=>absurd h hq,fun _=>trivial,fun h=>absurd h hq,fun _=>trivial⟩
theorem snum (s:List UInt8) (hs:s.length≤10):(digs s→oB.f (mkS s)=some (((dval 0 s:Nat):Int),true,()))∧(¬digs s→oB.f (mkS s)=some (0,false,())):=by have:=xO1 s hs _ 0 0 rfl (uH2 _) (by decide);rw[eI2,mI2]at this;rw[oB.f_eq,szS];exact⟨this.1,this.2.1⟩
theorem vnum (s:List UInt8) (hs:s.length≤10):(digs s→kB.f (mkS s)=some (((dval 0 s:Nat):Int),()))∧(¬digs s→kB.f (mkS s)=some (-1,())):=by have:=xO1 s hs _ 0 0 rfl (uH2 _) (by decide);rw[eI2,mI2]at this;rw[kB.f_eq];exact⟨this.2.2.1,this.2.2.2⟩
theorem qN1 (s:List UInt8) (hs:s.length≤10):∃n:Int,kB.f (mkS s)=some (n,())∧(digs s→n=(dval 0 s:Nat))∧(¬digs s→n = -1):=by
 by_cases h:digs s
 ·exact⟨_,(vnum s hs).1 h,fun _=>rfl,fun q=>absurd h q⟩
 ·exact⟨_,(vnum s hs).2 h,fun q=>absurd q h,fun _=>rfl⟩
theorem xL {a b:List UInt8}:digs (a++b)↔digs a∧digs b:=
 ⟨fun h=>⟨fun c hc=>h c (jI2 _ hc),fun c hc=>h c (nI2 _ hc)⟩,fun h c hc=>(kI2.1 hc).elim (h.1 c) (h.2 c)⟩
theorem ex_S (s:List UInt8) (a b:Nat):(mkS s).extract a b=mkS ((s.drop a).take (b-a)):=yH (by rw[iX1,B_mk,B_mk])
theorem len2 (y0 y1 y2 y3 y4 y5:Int) (h:y0<0∨y1<0∨y2<0∨y3<0∨y4<0∨y5<0):mB.l2 0 [y0,y1,y2,y3,y4,y5]=some (0,4,()):=by
 have step:∀(i:Nat) (hi:i<6),mB.l2 i [y0,y1,y2,y3,y4,y5]=bif decide ([y0,y1,y2,y3,y4,y5].getD i 0<0)then some (0,4,())else mB.l2 (i+1:Nat) [y0,y1,y2,y3,y4,y5]:=by
  intro i hi
  conv=>lhs;rw[mB.l2_eq]
  simp(disch:=omega)only[ss,zH2,hI2];rfl
 have z:=step 0 (by omega);rw[eI2]at z;rw[z,step 1 (by omega),step 2 (by omega),step 3 (by omega),step 4 (by omega),step 5 (by omega)];simp only[List.getD_cons_zero,mL2];by_cases h0:y0<0
 ·simp(disch:=omega)only[ss]
 ·by_cases h1:y1<0
  ·simp(disch:=omega)only[ss]
  ·by_cases h2:y2<0
   ·simp(disch:=omega)only[ss]
   ·by_cases h3:y3<0
    ·simp(disch:=omega)only[ss]
    ·by_cases h4:y4<0
     ·simp(disch:=omega)only[ss]
     ·have h5:y5<0:=by omega
      simp(disch:=omega)only[ss]
theorem gH2 (y0 y1 y2 y3 y4 y5:Int) (h:¬(y0<0∨y1<0∨y2<0∨y3<0∨y4<0∨y5<0)):mB.l2 0 [y0,y1,y2,y3,y4,y5]=(iC.f y0 y1 y2 y3 y4 y5).bind fun t7=>some (t7.1,t7.2.1,()):=by
 have step:∀(i:Nat) (hi:i<6),mB.l2 i [y0,y1,y2,y3,y4,y5]=bif decide ([y0,y1,y2,y3,y4,y5].getD i 0<0)then some (0,4,())else mB.l2 (i+1:Nat) [y0,y1,y2,y3,y4,y5]:=by
  intro i hi
  conv=>lhs;rw[mB.l2_eq]
  simp(disch:=omega)only[ss,zH2,hI2];rfl
 have z:=step 0 (by omega);rw[eI2]at z;rw[z,step 1 (by omega),step 2 (by omega),step 3 (by omega),step 4 (by omega),step 5 (by omega)];simp only[List.getD_cons_zero,mL2];simp(disch:=omega)only[ss];rw[mB.l2_eq];simp(disch:=omega)only[ss,zH2,hI2];rfl
theorem jH (s:List UInt8) (hs:s.length≤1000000):∃t e,iB.f (mkS s)=some (t,e,())∧mB.f (mkS s)=some (t,e,()):=by
 rw[iB.f_eq,mB.f_eq];by_cases c1:(s.length:Int)<15
 ·exact⟨0,2,by simp(disch:=omega)only[ss,szS],by simp(disch:=omega)only[ss,szS]⟩
 ·by_cases c2:(s.length:Int)>15
  ·exact⟨0,4,by simp(disch:=omega)only[ss,szS,iB.l1_eq],by simp(disch:=omega)only[ss,szS,mB.l1_eq]⟩
  ·have hl:s.length=15:=by omega
   have hbt:bt (mkS s) 8=((s.getD 8 0).toNat:Int):=wH (mkS s) 8;by_cases c3:((s.getD 8 0).toNat:Int)=84
   ·simp(disch:=omega)only[ss,szS,hbt,iB.l1_eq,mB.l1_eq];have t4:(4:Int).toNat=4:=rfl;simp only[show Int.toNat 4=4 from rfl,show Int.toNat 6=6 from rfl,show Int.toNat 8=8 from rfl,show Int.toNat 9=9 from rfl,show Int.toNat 11=11 from rfl,show Int.toNat 13=13 from rfl,show Int.toNat 15=15 from rfl,hl,ex_S,Nat.sub_zero,mI2,Nat.reduceSub];have L:∀a b:Nat,a+b≤15→((s.drop a).take b).length=b:=fun a b h=>by rw[cI2,qI2];omega
    have sp1:s.take 8=s.take 4++((s.drop 4).take 2++(s.drop 6).take 2):=by
     have h1:s.take 8=s.take 4++(s.drop 4).take 4:=by rw[←List.take_add]
     have h2:(s.drop 4).take 4=(s.drop 4).take 2++(s.drop 6).take 2:=by rw[show(4:Nat)=2+2 from rfl,List.take_add,nK2]
     rw[h1,h2]
    have sp2:(s.drop 9).take 6=(s.drop 9).take 2++((s.drop 11).take 2++(s.drop 13).take 2):=by
     have h1:(s.drop 9).take 6=(s.drop 9).take 2++(s.drop 11).take 4:=by rw[show(6:Nat)=2+4 from rfl,List.take_add,nK2]
     have h2:(s.drop 11).take 4=(s.drop 11).take 2++(s.drop 13).take 2:=by rw[show(4:Nat)=2+2 from rfl,List.take_add,nK2]
     rw[h1,h2]
    have L1:(s.take 4).length=4:=by rw[cI2];omega
    have L2:=L 4 2 (by omega);have L3:=L 6 2 (by omega);have L4:=L 9 2 (by omega);have L5:=L 11 2 (by omega);have L6:=L 13 2 (by omega);obtain⟨n1,e1,p1,q1⟩:=qN1 (s.take 4) (by omega);obtain⟨n2,e2,p2,q2⟩:=qN1 ((s.drop 4).take 2) (by omega);obtain⟨n3,e3,p3,q3⟩:=qN1 ((s.drop 6).take 2) (by omega);obtain⟨n4,e4,p4,q4⟩:=qN1 ((s.drop 9).take 2) (by omega);obtain⟨n5,e5,p5,q5⟩:=qN1 ((s.drop 11).take 2) (by omega);obtain⟨n6,e6,p6,q6⟩:=qN1 ((s.drop 13).take 2) (by omega);have hA:=snum (s.take 8) (by rw[cI2];omega);have hB:=snum ((s.drop 9).take 6) (by rw[cI2];omega);rw[sp1]at hA;rw[sp2]at hB;rw[xL,xL]at hA hB;rw[sp1,sp2];simp only[e1,e2,e3,e4,e5,e6,pH2];generalize s.take 4=w1 at *;generalize (s.drop 4).take 2=w2 at *;generalize (s.drop 6).take 2=w3 at *;generalize (s.drop 9).take 2=w4 at *;generalize (s.drop 11).take 2=w5 at *;generalize (s.drop 13).take 2=w6 at *;by_cases g1:digs w1∧digs w2∧digs w3
    ·by_cases g2:digs w4∧digs w5∧digs w6
     ·rw[hA.1 g1,hB.1 g2];have b1:=uO w1 g1.1;have b2:=uO w2 g1.2.1;have b3:=uO w3 g1.2.2;have b4:=uO w4 g2.1;have b5:=uO w5 g2.2.1;have b6:=uO w6 g2.2.2;rw[L1]at b1;rw[L2]at b2;rw[L3]at b3;rw[L4]at b4;rw[L5]at b5;rw[L6]at b6;have v1:dval 0 (w1++(w2++w3))=dval 0 w1*10000+dval 0 w2*100+dval 0 w3:=by rw[rH,rH,xI w3,xI w2,L2,L3];omega
      have v2:dval 0 (w4++(w5++w6))=dval 0 w4*10000+dval 0 w5*100+dval 0 w6:=by rw[rH,rH,xI w6,xI w5,L5,L6];omega
      rw[v1,v2];have p1:=p1 g1.1;have p2:=p2 g1.2.1;have p3:=p3 g1.2.2;have p4:=p4 g2.1;have p5:=p5 g2.2.1;have p6:=p6 g2.2.2;subst p1 p2 p3 p4 p5 p6;rw[gH2 _ _ _ _ _ _ (by omega)];generalize dval 0 w1=a1 at *;generalize dval 0 w2=a2 at *;generalize dval 0 w3=a3 at *;generalize dval 0 w4=a4 at *;generalize dval 0 w5=a5 at *;generalize dval 0 w6=a6 at *;obtain⟨t,e,m1,m2⟩:=nD1 a1 a2 a3 a4 a5 a6 (by omega) (by omega) (by omega);refine⟨t,e,?_,by rw[m2];rfl⟩;have k1:Int.tdiv ((a1*10000+a2*100+a3:Nat):Int) 10000=a1:=by rw[tdn (by omega)];omega
      have k2:Int.tdiv ((a1*10000+a2*100+a3:Nat):Int) 100=((a1*100+a2:Nat):Int):=by rw[tdn (by omega)];omega
      have k3:Int.tmod ((a1*100+a2:Nat):Int) 100=a2:=by rw[tmn (by omega)];omega
      have k4:Int.tmod ((a1*10000+a2*100+a3:Nat):Int) 100=a3:=by rw[tmn (by omega)];omega
      have j1:Int.tdiv ((a4*10000+a5*100+a6:Nat):Int) 10000=a4:=by rw[tdn (by omega)];omega
      have j2:Int.tdiv ((a4*10000+a5*100+a6:Nat):Int) 100=((a4*100+a5:Nat):Int):=by rw[tdn (by omega)];omega
      have j3:Int.tmod ((a4*100+a5:Nat):Int) 100=a5:=by rw[tmn (by omega)];omega
      have j4:Int.tmod ((a4*10000+a5*100+a6:Nat):Int) 100=a6:=by rw[tmn (by omega)];omega
      simp(disch:=omega)only[ss,iB.l2_eq,k1,k2,k4,j1,j2,j4];rw[k3,j3,m1];rfl
     ·refine⟨0,4,?_,?_⟩
      ·rw[hA.1 g1,hB.2 g2];simp(disch:=omega)only[ss,iB.l2_eq]
      ·refine len2 _ _ _ _ _ _ ?_;by_cases z4:digs w4
       ·by_cases z5:digs w5
        ·have:=q6 fun z6=>g2 ⟨z4,z5,z6⟩
         omega
        ·have:=q5 z5;omega
       ·have:=q4 z4;omega
    ·refine⟨0,4,?_,?_⟩
     ·rw[hA.2 g1];by_cases g2:digs w4∧digs w5∧digs w6
      ·rw[hB.1 g2];simp(disch:=omega)only[ss,iB.l2_eq]
      ·rw[hB.2 g2];simp(disch:=omega)only[ss,iB.l2_eq]
     ·refine len2 _ _ _ _ _ _ ?_;by_cases z1:digs w1
      ·by_cases z2:digs w2
       ·have:=q3 fun z3=>g1 ⟨z1,z2,z3⟩
        omega
       ·have:=q2 z2;omega
      ·have:=q1 z1;omega
   ·exact⟨0,4,by simp(disch:=omega)only[ss,szS,hbt,iB.l1_eq],by simp(disch:=omega)only[ss,szS,hbt,mB.l1_eq]⟩
theorem dm (a b:List UInt8):decide (mkS a=mkS b)=decide (a=b):=decide_eq_decide.2 ⟨jJ,fun h=>by rw[h]⟩
def FREQ :List UInt8:=[70,82,69,81]
def sh60 (r:Rl):Prop:=r.2.2.2.2.2.2.1.length≤60∧r.2.2.2.2.2.2.2.1.length≤60∧r.2.2.2.2.2.2.2.2.1.length≤60∧r.2.2.2.2.2.2.2.2.2.1.length≤60∧r.2.2.2.2.2.2.2.2.2.2.1.length≤60∧r.2.2.2.2.2.2.2.2.2.2.2.1.length≤60∧r.2.2.2.2.2.2.2.2.2.2.2.2.1.length≤60∧r.2.2.2.2.2.2.2.2.2.2.2.2.2.1.length≤60∧r.2.2.2.2.2.2.2.2.2.2.2.2.2.2.1.length≤60
def Part (r:Rl) (name:List UInt8) (a b:Option (Bool×Rl×Unit)):Prop:=
 (∃r':Rl,a=some (true,r',())∧b=some (true,r',())∧(sh60 r→sh60 r')∧(name=FREQ→r'.1≠0)∧(name≠FREQ→r'.1=r.1))∨(∃r1 r2:Rl,a=some (false,r1,())∧b=some (false,r2,()))
def fw :List (List UInt8):=[[89,69,65,82,76,89],[77,79,78,84,72,76,89],[87,69,69,75,76,89],[68,65,73,76,89],[72,79,85,82,76,89],[77,73,78,85,84,69,76,89],[83,69,67,79,78,68,76,89]]
theorem wB1 :zJ.f=some (fw.map mkS,()):=by rw[zJ.f_eq];rfl
theorem wI1 :fH.f=some ((([]:List UInt8)::fw).map mkS,()):=by rw[fH.f_eq];rfl
theorem nm0 :(⟨#[70,82,69,81]⟩:ByteArray)=mkS [70,82,69,81]:=rfl
theorem nm1 :(⟨#[73,78,84,69,82,86,65,76]⟩:ByteArray)=mkS [73,78,84,69,82,86,65,76]:=rfl
theorem nm2 :(⟨#[67,79,85,78,84]⟩:ByteArray)=mkS [67,79,85,78,84]:=rfl
theorem nm3 :(⟨#[85,78,84,73,76]⟩:ByteArray)=mkS [85,78,84,73,76]:=rfl
theorem nm4 :(⟨#[66,89,68,65,89]⟩:ByteArray)=mkS [66,89,68,65,89]:=rfl
theorem nm5 :(⟨#[87,75,83,84]⟩:ByteArray)=mkS [87,75,83,84]:=rfl
theorem nm6 :(⟨#[66,89,77,79,78,84,72]⟩:ByteArray)=mkS [66,89,77,79,78,84,72]:=rfl
theorem nm7 :(⟨#[66,89,87,69,69,75,78,79]⟩:ByteArray)=mkS [66,89,87,69,69,75,78,79]:=rfl
theorem nm8 :(⟨#[66,89,89,69,65,82,68,65,89]⟩:ByteArray)=mkS [66,89,89,69,65,82,68,65,89]:=rfl
theorem nm9 :(⟨#[66,89,77,79,78,84,72,68,65,89]⟩:ByteArray)=mkS [66,89,77,79,78,84,72,68,65,89]:=rfl
theorem nm10 :(⟨#[66,89,72,79,85,82]⟩:ByteArray)=mkS [66,89,72,79,85,82]:=rfl
theorem nm11 :(⟨#[66,89,77,73,78,85,84,69]⟩:ByteArray)=mkS [66,89,77,73,78,85,84,69]:=rfl
theorem nm12 :(⟨#[66,89,83,69,67,79,78,68]⟩:ByteArray)=mkS [66,89,83,69,67,79,78,68]:=rfl
theorem nm13 :(⟨#[66,89,83,69,84,80,79,83]⟩:ByteArray)=mkS [66,89,83,69,84,80,79,83]:=rfl
section
variable (f iv ct un wk : Int) (en : Bool) (mo we yd md : List Int) (dy : List Dy) (ho mi se po : List Int)
theorem tZ (v:List UInt8) (hv:v.length≤50000):Part (f,iv,ct,un,wk,en,mo,we,yd,md,dy,ho,mi,se,po,()) [73,78,84,69,82,86,65,76] (jA.f (f,iv,ct,un,wk,en,mo,we,yd,md,dy,ho,mi,se,po,()) (mkS [73,78,84,69,82,86,65,76]) (mkS v)) (xB.f (f,iv,ct,un,wk,en,mo,we,yd,md,dy,ho,mi,se,po,()) (mkS [73,78,84,69,82,86,65,76]) (mkS v)):=by
 rw[jA.f_eq,xB.f_eq];simp(disch:=decide)only[iE,nm0,nm1,nm2,nm3,nm4,nm5,nm6,nm7,nm8,nm9,nm10,nm11,nm12,nm13,dm,dp,dn,cond_true,cond_false];rcases bM v (by omega)with⟨n,hn,e⟩ | ⟨hn,n,e⟩ <;> rcases gJ v (by omega)with⟨m,hm,g⟩ | ⟨hm,m,g⟩
 ·have:=uL hn hm;subst this;simp only[e,g,pH2];refine .inl ⟨(f,n,ct,un,wk,en,mo,we,yd,md,dy,ho,mi,se,po,()),rfl,rfl,?_,fun h=>absurd h (by decide),fun _=>rfl⟩;exact fun h=>h
 ·exact absurd hn (hm n)
 ·exact absurd hm (hn m)
 ·simp only[e,g,pH2];exact .inr ⟨_,_,rfl,rfl⟩
theorem tL1 (v:List UInt8) (hv:v.length≤50000):Part (f,iv,ct,un,wk,en,mo,we,yd,md,dy,ho,mi,se,po,()) [67,79,85,78,84] (jA.f (f,iv,ct,un,wk,en,mo,we,yd,md,dy,ho,mi,se,po,()) (mkS [67,79,85,78,84]) (mkS v)) (xB.f (f,iv,ct,un,wk,en,mo,we,yd,md,dy,ho,mi,se,po,()) (mkS [67,79,85,78,84]) (mkS v)):=by
 rw[jA.f_eq,xB.f_eq];simp(disch:=decide)only[iE,nm0,nm1,nm2,nm3,nm4,nm5,nm6,nm7,nm8,nm9,nm10,nm11,nm12,nm13,dm,dp,dn,cond_true,cond_false];rcases bM v (by omega)with⟨n,hn,e⟩ | ⟨hn,n,e⟩ <;> rcases gJ v (by omega)with⟨m,hm,g⟩ | ⟨hm,m,g⟩
 ·have:=uL hn hm;subst this;simp only[e,g,pH2];refine .inl ⟨(f,iv,n,un,wk,en,mo,we,yd,md,dy,ho,mi,se,po,()),rfl,rfl,?_,fun h=>absurd h (by decide),fun _=>rfl⟩;exact fun h=>h
 ·exact absurd hn (hm n)
 ·exact absurd hm (hn m)
 ·simp only[e,g,pH2];exact .inr ⟨_,_,rfl,rfl⟩
theorem uL1 (v:List UInt8) (hv:v.length≤50000):Part (f,iv,ct,un,wk,en,mo,we,yd,md,dy,ho,mi,se,po,()) [85,78,84,73,76] (jA.f (f,iv,ct,un,wk,en,mo,we,yd,md,dy,ho,mi,se,po,()) (mkS [85,78,84,73,76]) (mkS v)) (xB.f (f,iv,ct,un,wk,en,mo,we,yd,md,dy,ho,mi,se,po,()) (mkS [85,78,84,73,76]) (mkS v)):=by
 rw[jA.f_eq,xB.f_eq];simp(disch:=decide)only[iE,nm0,nm1,nm2,nm3,nm4,nm5,nm6,nm7,nm8,nm9,nm10,nm11,nm12,nm13,dm,dp,dn,cond_true,cond_false];obtain⟨t,e,h1,h2⟩:=jH v (by omega);simp only[h1,h2,pH2];by_cases he:e=0
 ·rw[dp he];refine .inl ⟨(f,iv,ct,t,wk,true,mo,we,yd,md,dy,ho,mi,se,po,()),rfl,rfl,fun h=>h,fun h=>absurd h (by decide),fun _=>rfl⟩
 ·rw[dn he];exact .inr ⟨_,_,rfl,rfl⟩
theorem gN1 (v:List UInt8) (hv:v.length≤50000):Part (f,iv,ct,un,wk,en,mo,we,yd,md,dy,ho,mi,se,po,()) [66,89,68,65,89] (jA.f (f,iv,ct,un,wk,en,mo,we,yd,md,dy,ho,mi,se,po,()) (mkS [66,89,68,65,89]) (mkS v)) (xB.f (f,iv,ct,un,wk,en,mo,we,yd,md,dy,ho,mi,se,po,()) (mkS [66,89,68,65,89]) (mkS v)):=by
 rw[jA.f_eq,xB.f_eq];simp(disch:=decide)only[iE,nm0,nm1,nm2,nm3,nm4,nm5,nm6,nm7,nm8,nm9,nm10,nm11,nm12,nm13,dm,dp,dn,cond_true,cond_false];rcases kF1 v hv with⟨r,hr,e,g⟩ | ⟨_,e,g⟩
 ·have hr:r.length≤60:=hr.1.2;simp only[e,g,pH2];refine .inl ⟨(f,iv,ct,un,wk,en,mo,we,yd,md,r,ho,mi,se,po,()),rfl,rfl,?_,fun h=>absurd h (by decide),fun _=>rfl⟩
  exact fun h=>by unfold sh60 at *;dsimp only at *;exact⟨h.1,h.2.1,h.2.2.1,h.2.2.2.1,hr,h.2.2.2.2.2.1,h.2.2.2.2.2.2.1,h.2.2.2.2.2.2.2.1,h.2.2.2.2.2.2.2.2⟩
 ·simp only[e,g,pH2];exact .inr ⟨_,_,rfl,rfl⟩
theorem hD1 (v:List UInt8) (hv:v.length≤50000):Part (f,iv,ct,un,wk,en,mo,we,yd,md,dy,ho,mi,se,po,()) [66,89,77,79,78,84,72] (jA.f (f,iv,ct,un,wk,en,mo,we,yd,md,dy,ho,mi,se,po,()) (mkS [66,89,77,79,78,84,72]) (mkS v)) (xB.f (f,iv,ct,un,wk,en,mo,we,yd,md,dy,ho,mi,se,po,()) (mkS [66,89,77,79,78,84,72]) (mkS v)):=by
 rw[jA.f_eq,xB.f_eq];simp(disch:=decide)only[iE,nm0,nm1,nm2,nm3,nm4,nm5,nm6,nm7,nm8,nm9,nm10,nm11,nm12,nm13,dm,dp,dn,cond_true,cond_false];rw[jA.l1_eq];rcases fJ v hv with⟨r,hr,e,g⟩ | ⟨_,e,g⟩
 ·have hr:r.length≤60:=hr.1.2;simp only[e,g,pH2];refine .inl ⟨(f,iv,ct,un,wk,en,r,we,yd,md,dy,ho,mi,se,po,()),rfl,rfl,?_,fun h=>absurd h (by decide),fun _=>rfl⟩
  exact fun h=>by unfold sh60 at *;dsimp only at *;exact⟨hr,h.2.1,h.2.2.1,h.2.2.2.1,h.2.2.2.2.1,h.2.2.2.2.2.1,h.2.2.2.2.2.2.1,h.2.2.2.2.2.2.2.1,h.2.2.2.2.2.2.2.2⟩
 ·simp only[e,g,pH2];exact .inr ⟨_,_,rfl,rfl⟩
theorem cA1 (v:List UInt8) (hv:v.length≤50000):Part (f,iv,ct,un,wk,en,mo,we,yd,md,dy,ho,mi,se,po,()) [66,89,87,69,69,75,78,79] (jA.f (f,iv,ct,un,wk,en,mo,we,yd,md,dy,ho,mi,se,po,()) (mkS [66,89,87,69,69,75,78,79]) (mkS v)) (xB.f (f,iv,ct,un,wk,en,mo,we,yd,md,dy,ho,mi,se,po,()) (mkS [66,89,87,69,69,75,78,79]) (mkS v)):=by
 rw[jA.f_eq,xB.f_eq];simp(disch:=decide)only[iE,nm0,nm1,nm2,nm3,nm4,nm5,nm6,nm7,nm8,nm9,nm10,nm11,nm12,nm13,dm,dp,dn,cond_true,cond_false];rw[jA.l1a_eq];rcases fJ v hv with⟨r,hr,e,g⟩ | ⟨_,e,g⟩
 ·have hr:r.length≤60:=hr.1.2;simp only[e,g,pH2];refine .inl ⟨(f,iv,ct,un,wk,en,mo,r,yd,md,dy,ho,mi,se,po,()),rfl,rfl,?_,fun h=>absurd h (by decide),fun _=>rfl⟩
  exact fun h=>by unfold sh60 at *;dsimp only at *;exact⟨h.1,hr,h.2.2.1,h.2.2.2.1,h.2.2.2.2.1,h.2.2.2.2.2.1,h.2.2.2.2.2.2.1,h.2.2.2.2.2.2.2.1,h.2.2.2.2.2.2.2.2⟩
 ·simp only[e,g,pH2];exact .inr ⟨_,_,rfl,rfl⟩
theorem rX (v:List UInt8) (hv:v.length≤50000):Part (f,iv,ct,un,wk,en,mo,we,yd,md,dy,ho,mi,se,po,()) [66,89,89,69,65,82,68,65,89] (jA.f (f,iv,ct,un,wk,en,mo,we,yd,md,dy,ho,mi,se,po,()) (mkS [66,89,89,69,65,82,68,65,89]) (mkS v)) (xB.f (f,iv,ct,un,wk,en,mo,we,yd,md,dy,ho,mi,se,po,()) (mkS [66,89,89,69,65,82,68,65,89]) (mkS v)):=by
 rw[jA.f_eq,xB.f_eq];simp(disch:=decide)only[iE,nm0,nm1,nm2,nm3,nm4,nm5,nm6,nm7,nm8,nm9,nm10,nm11,nm12,nm13,dm,dp,dn,cond_true,cond_false];rw[jA.l1b_eq];rcases fJ v hv with⟨r,hr,e,g⟩ | ⟨_,e,g⟩
 ·have hr:r.length≤60:=hr.1.2;simp only[e,g,pH2];refine .inl ⟨(f,iv,ct,un,wk,en,mo,we,r,md,dy,ho,mi,se,po,()),rfl,rfl,?_,fun h=>absurd h (by decide),fun _=>rfl⟩
  exact fun h=>by unfold sh60 at *;dsimp only at *;exact⟨h.1,h.2.1,hr,h.2.2.2.1,h.2.2.2.2.1,h.2.2.2.2.2.1,h.2.2.2.2.2.2.1,h.2.2.2.2.2.2.2.1,h.2.2.2.2.2.2.2.2⟩
 ·simp only[e,g,pH2];exact .inr ⟨_,_,rfl,rfl⟩
theorem cV (v:List UInt8) (hv:v.length≤50000):Part (f,iv,ct,un,wk,en,mo,we,yd,md,dy,ho,mi,se,po,()) [66,89,77,79,78,84,72,68,65,89] (jA.f (f,iv,ct,un,wk,en,mo,we,yd,md,dy,ho,mi,se,po,()) (mkS [66,89,77,79,78,84,72,68,65,89]) (mkS v)) (xB.f (f,iv,ct,un,wk,en,mo,we,yd,md,dy,ho,mi,se,po,()) (mkS [66,89,77,79,78,84,72,68,65,89]) (mkS v)):=by
 rw[jA.f_eq,xB.f_eq];simp(disch:=decide)only[iE,nm0,nm1,nm2,nm3,nm4,nm5,nm6,nm7,nm8,nm9,nm10,nm11,nm12,nm13,dm,dp,dn,cond_true,cond_false];rw[jA.l1c_eq];rcases fJ v hv with⟨r,hr,e,g⟩ | ⟨_,e,g⟩
 ·have hr:r.length≤60:=hr.1.2;simp only[e,g,pH2];refine .inl ⟨(f,iv,ct,un,wk,en,mo,we,yd,r,dy,ho,mi,se,po,()),rfl,rfl,?_,fun h=>absurd h (by decide),fun _=>rfl⟩
  exact fun h=>by unfold sh60 at *;dsimp only at *;exact⟨h.1,h.2.1,h.2.2.1,hr,h.2.2.2.2.1,h.2.2.2.2.2.1,h.2.2.2.2.2.2.1,h.2.2.2.2.2.2.2.1,h.2.2.2.2.2.2.2.2⟩
 ·simp only[e,g,pH2];exact .inr ⟨_,_,rfl,rfl⟩
theorem bI1 (v:List UInt8) (hv:v.length≤50000):Part (f,iv,ct,un,wk,en,mo,we,yd,md,dy,ho,mi,se,po,()) [66,89,72,79,85,82] (jA.f (f,iv,ct,un,wk,en,mo,we,yd,md,dy,ho,mi,se,po,()) (mkS [66,89,72,79,85,82]) (mkS v)) (xB.f (f,iv,ct,un,wk,en,mo,we,yd,md,dy,ho,mi,se,po,()) (mkS [66,89,72,79,85,82]) (mkS v)):=by
 rw[jA.f_eq,xB.f_eq];simp(disch:=decide)only[iE,nm0,nm1,nm2,nm3,nm4,nm5,nm6,nm7,nm8,nm9,nm10,nm11,nm12,nm13,dm,dp,dn,cond_true,cond_false];rw[jA.l1d_eq];rcases fJ v hv with⟨r,hr,e,g⟩ | ⟨_,e,g⟩
 ·have hr:r.length≤60:=hr.1.2;simp only[e,g,pH2];refine .inl ⟨(f,iv,ct,un,wk,en,mo,we,yd,md,dy,r,mi,se,po,()),rfl,rfl,?_,fun h=>absurd h (by decide),fun _=>rfl⟩
  exact fun h=>by unfold sh60 at *;dsimp only at *;exact⟨h.1,h.2.1,h.2.2.1,h.2.2.2.1,h.2.2.2.2.1,hr,h.2.2.2.2.2.2.1,h.2.2.2.2.2.2.2.1,h.2.2.2.2.2.2.2.2⟩
 ·simp only[e,g,pH2];exact .inr ⟨_,_,rfl,rfl⟩
theorem dA1 (v:List UInt8) (hv:v.length≤50000):Part (f,iv,ct,un,wk,en,mo,we,yd,md,dy,ho,mi,se,po,()) [66,89,77,73,78,85,84,69] (jA.f (f,iv,ct,un,wk,en,mo,we,yd,md,dy,ho,mi,se,po,()) (mkS [66,89,77,73,78,85,84,69]) (mkS v)) (xB.f (f,iv,ct,un,wk,en,mo,we,yd,md,dy,ho,mi,se,po,()) (mkS [66,89,77,73,78,85,84,69]) (mkS v)):=by
 rw[jA.f_eq,xB.f_eq];simp(disch:=decide)only[iE,nm0,nm1,nm2,nm3,nm4,nm5,nm6,nm7,nm8,nm9,nm10,nm11,nm12,nm13,dm,dp,dn,cond_true,cond_false];rw[jA.l1e_eq];rcases fJ v hv with⟨r,hr,e,g⟩ | ⟨_,e,g⟩
 ·have hr:r.length≤60:=hr.1.2;simp only[e,g,pH2];refine .inl ⟨(f,iv,ct,un,wk,en,mo,we,yd,md,dy,ho,r,se,po,()),rfl,rfl,?_,fun h=>absurd h (by decide),fun _=>rfl⟩
  exact fun h=>by unfold sh60 at *;dsimp only at *;exact⟨h.1,h.2.1,h.2.2.1,h.2.2.2.1,h.2.2.2.2.1,h.2.2.2.2.2.1,hr,h.2.2.2.2.2.2.2.1,h.2.2.2.2.2.2.2.2⟩
 ·simp only[e,g,pH2];exact .inr ⟨_,_,rfl,rfl⟩
theorem cB1 (v:List UInt8) (hv:v.length≤50000):Part (f,iv,ct,un,wk,en,mo,we,yd,md,dy,ho,mi,se,po,()) [66,89,83,69,67,79,78,68] (jA.f (f,iv,ct,un,wk,en,mo,we,yd,md,dy,ho,mi,se,po,()) (mkS [66,89,83,69,67,79,78,68]) (mkS v)) (xB.f (f,iv,ct,un,wk,en,mo,we,yd,md,dy,ho,mi,se,po,()) (mkS [66,89,83,69,67,79,78,68]) (mkS v)):=by
 rw[jA.f_eq,xB.f_eq];simp(disch:=decide)only[iE,nm0,nm1,nm2,nm3,nm4,nm5,nm6,nm7,nm8,nm9,nm10,nm11,nm12,nm13,dm,dp,dn,cond_true,cond_false];rw[jA.l1f_eq];rcases fJ v hv with⟨r,hr,e,g⟩ | ⟨_,e,g⟩
 ·have hr:r.length≤60:=hr.1.2;simp only[e,g,pH2];refine .inl ⟨(f,iv,ct,un,wk,en,mo,we,yd,md,dy,ho,mi,r,po,()),rfl,rfl,?_,fun h=>absurd h (by decide),fun _=>rfl⟩
  exact fun h=>by unfold sh60 at *;dsimp only at *;exact⟨h.1,h.2.1,h.2.2.1,h.2.2.2.1,h.2.2.2.2.1,h.2.2.2.2.2.1,h.2.2.2.2.2.2.1,hr,h.2.2.2.2.2.2.2.2⟩
 ·simp only[e,g,pH2];exact .inr ⟨_,_,rfl,rfl⟩
theorem fB1 (v:List UInt8) (hv:v.length≤50000):Part (f,iv,ct,un,wk,en,mo,we,yd,md,dy,ho,mi,se,po,()) [66,89,83,69,84,80,79,83] (jA.f (f,iv,ct,un,wk,en,mo,we,yd,md,dy,ho,mi,se,po,()) (mkS [66,89,83,69,84,80,79,83]) (mkS v)) (xB.f (f,iv,ct,un,wk,en,mo,we,yd,md,dy,ho,mi,se,po,()) (mkS [66,89,83,69,84,80,79,83]) (mkS v)):=by
 rw[jA.f_eq,xB.f_eq];simp(disch:=decide)only[iE,nm0,nm1,nm2,nm3,nm4,nm5,nm6,nm7,nm8,nm9,nm10,nm11,nm12,nm13,dm,dp,dn,cond_true,cond_false];rw[jA.l1g_eq];rcases fJ v hv with⟨r,hr,e,g⟩ | ⟨_,e,g⟩
 ·have hr:r.length≤60:=hr.1.2;simp only[e,g,pH2];refine .inl ⟨(f,iv,ct,un,wk,en,mo,we,yd,md,dy,ho,mi,se,r,()),rfl,rfl,?_,fun h=>absurd h (by decide),fun _=>rfl⟩
  exact fun h=>by unfold sh60 at *;dsimp only at *;exact⟨h.1,h.2.1,h.2.2.1,h.2.2.2.1,h.2.2.2.2.1,h.2.2.2.2.2.1,h.2.2.2.2.2.2.1,h.2.2.2.2.2.2.2.1,hr⟩
 ·simp only[e,g,pH2];exact .inr ⟨_,_,rfl,rfl⟩
theorem tS1 (v:List UInt8) (hv:v.length≤50000):Part (f,iv,ct,un,wk,en,mo,we,yd,md,dy,ho,mi,se,po,()) [87,75,83,84] (jA.f (f,iv,ct,un,wk,en,mo,we,yd,md,dy,ho,mi,se,po,()) (mkS [87,75,83,84]) (mkS v)) (xB.f (f,iv,ct,un,wk,en,mo,we,yd,md,dy,ho,mi,se,po,()) (mkS [87,75,83,84]) (mkS v)):=by
 rw[jA.f_eq,xB.f_eq];simp(disch:=decide)only[iE,nm0,nm1,nm2,nm3,nm4,nm5,nm6,nm7,nm8,nm9,nm10,nm11,nm12,nm13,dm,dp,dn,cond_true,cond_false];have hI:=gO wd v (by decide);have hW:=lQ wd v (by decide);have hp:=sO wd v 0 (by omega);have hnil:([]:List UInt8)∉wd:=by decide
 simp only[nI,sP,hI,hW,pH2];by_cases c:v∈wd
 ·have hv0:v≠[]:=fun q=>hnil (q ▸ c)
  have hge:=hp.1.2 c;rw[if_neg hv0,dp (show posF 0 wd v≥0 from hge)];exact .inl ⟨_,rfl,rfl,fun h=>h,fun h=>absurd h (by decide),fun _=>rfl⟩
 ·have hlt:¬posF 0 wd v≥0:=fun q=>c (hp.1.1 q)
  have:¬(if v=[]then(-1:Int)else posF 0 wd v)≥0:=by split <;> omega
  rw[dn hlt,dn this];exact .inr ⟨_,_,rfl,rfl⟩
theorem aO1 (v:List UInt8) (hv:v.length≤50000):Part (f,iv,ct,un,wk,en,mo,we,yd,md,dy,ho,mi,se,po,()) [70,82,69,81] (jA.f (f,iv,ct,un,wk,en,mo,we,yd,md,dy,ho,mi,se,po,()) (mkS [70,82,69,81]) (mkS v)) (xB.f (f,iv,ct,un,wk,en,mo,we,yd,md,dy,ho,mi,se,po,()) (mkS [70,82,69,81]) (mkS v)):=by
 rw[jA.f_eq,xB.f_eq];simp(disch:=decide)only[iE,nm0,nm1,nm2,nm3,nm4,nm5,nm6,nm7,nm8,nm9,nm10,nm11,nm12,nm13,dm,dp,dn,cond_true,cond_false];have hI:=gO fw v (by decide);have hW:=lQ ([]::fw) v (by decide);have hp:=sO fw v 0 (by omega);have hlt7:=nB1 fw v 0 (by omega);have hl7:(fw.length:Int)=7:=rfl;have hnil:([]:List UInt8)∉fw:=by decide
 have hs:=dD1 fw v 0;have hw:w6 (posF 0 fw v+1)=posF 0 fw v+1:=wr (by omega) (by omega);simp only[wB1,wI1,hI,hW,pH2,hw];by_cases c:v∈fw
 ·have hv0:v≠[]:=fun q=>hnil (q ▸ c)
  have hge:=hp.1.2 c;have e:posF 0 ([]::fw) v=posF 0 fw v+1:=by show(if []=v then(0:Int)else posF (0+1) fw v)=_;rw[if_neg fun q=>hv0 q.symm,hs,if_pos c]
  rw[if_neg hv0,e,dp (show posF 0 fw v+1>0 by omega)];refine .inl ⟨(posF 0 fw v+1,iv,ct,un,wk,en,mo,we,yd,md,dy,ho,mi,se,po,()),rfl,rfl,fun h=>h,fun _=>?_,fun h=>absurd rfl h⟩;show posF 0 fw v+1≠0;omega
 ·have hlt:posF 0 fw v = -1:=hp.2.2.2 (Int.not_le.1 fun q=>c (hp.1.1 q))
  have:(if v=[]then(-1:Int)else posF 0 ([]::fw) v) = -1:=by
   by_cases hv0:v=[]
   ·rw[if_pos hv0]
   ·rw[if_neg hv0];show(if []=v then(0:Int)else posF (0+1) fw v)=_;rw[if_neg fun q=>hv0 q.symm,hs,if_neg c]
  rw[this,hlt];exact .inr ⟨_,_,rfl,rfl⟩
theorem fF1 (name v:List UInt8) (hv:v.length≤50000):Part (f,iv,ct,un,wk,en,mo,we,yd,md,dy,ho,mi,se,po,()) name (jA.f (f,iv,ct,un,wk,en,mo,we,yd,md,dy,ho,mi,se,po,()) (mkS name) (mkS v)) (xB.f (f,iv,ct,un,wk,en,mo,we,yd,md,dy,ho,mi,se,po,()) (mkS name) (mkS v)):=by
 by_cases h0:name=[70,82,69,81]
 ·subst h0;exact aO1 f iv ct un wk en mo we yd md dy ho mi se po v hv
 by_cases h1:name=[73,78,84,69,82,86,65,76]
 ·subst h1;exact tZ f iv ct un wk en mo we yd md dy ho mi se po v hv
 by_cases h2:name=[67,79,85,78,84]
 ·subst h2;exact tL1 f iv ct un wk en mo we yd md dy ho mi se po v hv
 by_cases h3:name=[85,78,84,73,76]
 ·subst h3;exact uL1 f iv ct un wk en mo we yd md dy ho mi se po v hv
 by_cases h4:name=[66,89,68,65,89]
 ·subst h4;exact gN1 f iv ct un wk en mo we yd md dy ho mi se po v hv
 by_cases h5:name=[87,75,83,84]
 ·subst h5;exact tS1 f iv ct un wk en mo we yd md dy ho mi se po v hv
 by_cases h6:name=[66,89,77,79,78,84,72]
 ·subst h6;exact hD1 f iv ct un wk en mo we yd md dy ho mi se po v hv
 by_cases h7:name=[66,89,87,69,69,75,78,79]
 ·subst h7;exact cA1 f iv ct un wk en mo we yd md dy ho mi se po v hv
 by_cases h8:name=[66,89,89,69,65,82,68,65,89]
 ·subst h8;exact rX f iv ct un wk en mo we yd md dy ho mi se po v hv
 by_cases h9:name=[66,89,77,79,78,84,72,68,65,89]
 ·subst h9;exact cV f iv ct un wk en mo we yd md dy ho mi se po v hv
 by_cases h10:name=[66,89,72,79,85,82]
 ·subst h10;exact bI1 f iv ct un wk en mo we yd md dy ho mi se po v hv
 by_cases h11:name=[66,89,77,73,78,85,84,69]
 ·subst h11;exact dA1 f iv ct un wk en mo we yd md dy ho mi se po v hv
 by_cases h12:name=[66,89,83,69,67,79,78,68]
 ·subst h12;exact cB1 f iv ct un wk en mo we yd md dy ho mi se po v hv
 by_cases h13:name=[66,89,83,69,84,80,79,83]
 ·subst h13;exact fB1 f iv ct un wk en mo we yd md dy ho mi se po v hv
 rw[jA.f_eq,xB.f_eq];simp only[iE,nm0,nm1,nm2,nm3,nm4,nm5,nm6,nm7,nm8,nm9,nm10,nm11,nm12,nm13,dm,dn h0,dn h1,dn h2,dn h3,dn h4,dn h5,dn h6,dn h7,dn h8,dn h9,dn h10,dn h11,dn h12,dn h13,cond_false];rw[jA.l1h_eq];exact .inr ⟨_,_,rfl,rfl⟩
end
def zR :Rl:=(0,0,0,0,0,false,[],[],[],[],[],[],[],[],[],())
noncomputable def PA (p:List (List UInt8)) (i:Nat) (r:Rl) (ms:List (List UInt8)):Option (Rl×Int×Int×Unit):=yA.l1a (p.map mkS) p.length i 0 0 0 0 0 false r.1 r.2.1 r.2.2.1 r.2.2.2.1 r.2.2.2.2.1 r.2.2.2.2.2.1 r.2.2.2.2.2.2.1 r.2.2.2.2.2.2.2.1 r.2.2.2.2.2.2.2.2.1 r.2.2.2.2.2.2.2.2.2.1 r.2.2.2.2.2.2.2.2.2.2.1 r.2.2.2.2.2.2.2.2.2.2.2.1 r.2.2.2.2.2.2.2.2.2.2.2.2.1 r.2.2.2.2.2.2.2.2.2.2.2.2.2.1 r.2.2.2.2.2.2.2.2.2.2.2.2.2.2.1 (ms.map mkS)
noncomputable def VA (p:List (List UInt8)) (i:Nat) (r:Rl) (ms:List (List UInt8)):Option (Rl×Int×Int×Unit):=aB.l1a (p.map mkS) i 0 0 0 0 0 false r.1 r.2.1 r.2.2.1 r.2.2.2.1 r.2.2.2.2.1 r.2.2.2.2.2.1 r.2.2.2.2.2.2.1 r.2.2.2.2.2.2.2.1 r.2.2.2.2.2.2.2.2.1 r.2.2.2.2.2.2.2.2.2.1 r.2.2.2.2.2.2.2.2.2.2.1 r.2.2.2.2.2.2.2.2.2.2.2.1 r.2.2.2.2.2.2.2.2.2.2.2.2.1 r.2.2.2.2.2.2.2.2.2.2.2.2.2.1 r.2.2.2.2.2.2.2.2.2.2.2.2.2.2.1 (ms.map mkS)
def Both (a b:Option (Rl×Int×Int×Unit)):Prop:=∃(R:Rl) (at_ e:Int),a=some (R,at_,e,())∧b=some (R,at_,e,())∧sh60 R
theorem hE2 :sh60 zR:=by unfold sh60 zR;simp
theorem aZ (n e:Int):Both (some (zR,n,e,())) (some (zR,n,e,())):=⟨zR,n,e,rfl,rfl,hE2⟩
theorem xA1 {r:Rl} (h:sh60 r):wQ r.2.2.2.2.2.2.1 r.2.2.2.2.2.2.2.1 r.2.2.2.2.2.2.2.2.1 r.2.2.2.2.2.2.2.2.2.1 r.2.2.2.2.2.2.2.2.2.2.1 r.2.2.2.2.2.2.2.2.2.2.2.1 r.2.2.2.2.2.2.2.2.2.2.2.2.1 r.2.2.2.2.2.2.2.2.2.2.2.2.2.1 r.2.2.2.2.2.2.2.2.2.2.2.2.2.2.1:=by unfold sh60 at h;unfold wQ;omega
theorem tX1 (r:Rl) (v:List UInt8):∃r1:Rl,jA.f (r.1,r.2.1,r.2.2.1,r.2.2.2.1,r.2.2.2.2.1,r.2.2.2.2.2.1,r.2.2.2.2.2.2.1,r.2.2.2.2.2.2.2.1,r.2.2.2.2.2.2.2.2.1,r.2.2.2.2.2.2.2.2.2.1,r.2.2.2.2.2.2.2.2.2.2.1,r.2.2.2.2.2.2.2.2.2.2.2.1,r.2.2.2.2.2.2.2.2.2.2.2.2.1,r.2.2.2.2.2.2.2.2.2.2.2.2.2.1,r.2.2.2.2.2.2.2.2.2.2.2.2.2.2.1,()) (mkS []) (mkS v)=some (false,r1,()):=by rw[jA.f_eq];simp(disch:=decide)only[iE,nm0,nm1,nm2,nm3,nm4,nm5,nm6,nm7,nm8,nm9,nm10,nm11,nm12,nm13,dm,dn,cond_false];rw[jA.l1h_eq];exact⟨_,rfl⟩
theorem hL1 (p:List (List UInt8)) (hp:p.length≤10000) (hpl:∀s∈p,s.length≤5000):∀(k i:Nat) (r:Rl) (ms:List (List UInt8)),p.length-i=k→i≤p.length→ms.length≤i→sh60 r→[]∉ms→(FREQ∈ms↔r.1≠0)→Both (PA p i r ms) (VA p i r ms):=by
 have hlim:uC=17179869184:=rfl;have hml:(p.map mkS).length=p.length:=tH2 ..;intro k
 induction k with
 | zero=>
  intro i r ms hk hil hms hr hne hfr;have e:i=p.length:=by omega
  subst e;have hC:zB.f (ms.map mkS) ⟨#[70,82,69,81]⟩=some (decide (FREQ∈ms),()):=mJ ms FREQ (by omega);have hM:=kA1 r (xA1 hr);obtain⟨b,hb⟩:=vA1 r (xA1 hr);have hMp:wA.f (r.1,r.2.1,r.2.2.1,r.2.2.2.1,r.2.2.2.2.1,r.2.2.2.2.2.1,r.2.2.2.2.2.2.1,r.2.2.2.2.2.2.2.1,r.2.2.2.2.2.2.2.2.1,r.2.2.2.2.2.2.2.2.2.1,r.2.2.2.2.2.2.2.2.2.2.1,r.2.2.2.2.2.2.2.2.2.2.2.1,r.2.2.2.2.2.2.2.2.2.2.2.2.1,r.2.2.2.2.2.2.2.2.2.2.2.2.2.1,r.2.2.2.2.2.2.2.2.2.2.2.2.2.2.1,())=some (b,()):=hb;have hMv:bA.f (r.1,r.2.1,r.2.2.1,r.2.2.2.1,r.2.2.2.2.1,r.2.2.2.2.2.1,r.2.2.2.2.2.2.1,r.2.2.2.2.2.2.2.1,r.2.2.2.2.2.2.2.2.1,r.2.2.2.2.2.2.2.2.2.1,r.2.2.2.2.2.2.2.2.2.2.1,r.2.2.2.2.2.2.2.2.2.2.2.1,r.2.2.2.2.2.2.2.2.2.2.2.2.1,r.2.2.2.2.2.2.2.2.2.2.2.2.2.1,r.2.2.2.2.2.2.2.2.2.2.2.2.2.2.1,())=some (b,()):=hM ▸ hb;unfold PA VA;rw[yA.l1a_eq,aB.l1a_eq];simp(disch:=omega)only[ss,hml,hC];by_cases c:FREQ∈ms
  ·have c0:¬r.1=0:=hfr.1 c;rw[dp c,dn c0];simp(disch:=omega)only[ss,hMp,hMv]
   cases b with
   | false=>exact aZ 0 1
   | true=>exact⟨r,0,0,rfl,rfl,hr⟩
  ·have c0:r.1=0:=Decidable.byContradiction fun q=>c (hfr.2 q)
   rw[dn c,dp c0];exact aZ 0 7
 | succ k ih=>
  intro i r ms hk hil hms hr hne hfr;have hlt:i<p.length:=by omega
  have hg:=gm p i hlt;have hsl:=hpl _ (iD [] hlt);have pt:∀x9:ByteArray,yA.l2a i x9 (p.map mkS) p.length i true 0 0 0 0 0 false r.1 r.2.1 r.2.2.1 r.2.2.2.1 r.2.2.2.2.1 r.2.2.2.2.2.1 r.2.2.2.2.2.2.1 r.2.2.2.2.2.2.2.1 r.2.2.2.2.2.2.2.2.1 r.2.2.2.2.2.2.2.2.2.1 r.2.2.2.2.2.2.2.2.2.2.1 r.2.2.2.2.2.2.2.2.2.2.2.1 r.2.2.2.2.2.2.2.2.2.2.2.2.1 r.2.2.2.2.2.2.2.2.2.2.2.2.2.1 r.2.2.2.2.2.2.2.2.2.2.2.2.2.2.1 (ms.map mkS)=some (zR,(i:Int),4,()):=fun x9=>by rw[yA.l2a_eq,cond_true];rfl
  have vt:∀x9:List ByteArray,aB.l2a (p.map mkS) i x9 true 0 0 0 0 0 false r.1 r.2.1 r.2.2.1 r.2.2.2.1 r.2.2.2.2.1 r.2.2.2.2.2.1 r.2.2.2.2.2.2.1 r.2.2.2.2.2.2.2.1 r.2.2.2.2.2.2.2.2.1 r.2.2.2.2.2.2.2.2.2.1 r.2.2.2.2.2.2.2.2.2.2.1 r.2.2.2.2.2.2.2.2.2.2.2.1 r.2.2.2.2.2.2.2.2.2.2.2.2.1 r.2.2.2.2.2.2.2.2.2.2.2.2.2.1 r.2.2.2.2.2.2.2.2.2.2.2.2.2.2.1 (ms.map mkS)=some (zR,(i:Int),4,()):=fun x9=>by rw[aB.l2a_eq,cond_true];rfl
  generalize hs:p.getD i []=s at hg hsl;have hV:rB.f (mkS s) 61=some ((segs 61 s).map mkS,()):=cK 61 s (by omega);have hsm:((segs 61 s).map mkS).length=(segs 61 s).length:=tH2 ..;unfold PA VA;rw[yA.l1a_eq,aB.l1a_eq];simp(disch:=omega)only[ss,hml,hg,hV];rcases iI (c:=(61:UInt8)) (l:=s)with hno | ⟨a,b,hab,ha⟩
  ·have hc:aE.f (mkS s) ⟨#[61]⟩=some (mkS s,mkS [],false,()):=yT (s:=mkS s) (c:=61) hno;have hl1:((segs 61 s).map mkS).length=1:=by rw[hsm,mK hno];rfl
   rw[hc,hl1];simp(disch:=omega)only[ss,pt,vt];exact aZ i 4
  ·have hab2:a.length+b.length≤5000:=by rw[hab]at hsl;simp at hsl;omega
   have hc:aE.f (mkS s) ⟨#[61]⟩=some (mkS a,mkS b,true,()):=by rw[hab];exact nT (c:=61) (by omega) ha
   have hsg:segs 61 s=a::segs 61 b:=by rw[hab];exact iK ha
   have hl2:2≤((segs 61 s).map mkS).length:=by rw[hsm,hsg];have:=hK2.2 (lU 61 b);simp;omega
   have h0:((segs 61 s).map mkS).getD 0 ByteArray.empty=mkS a:=by rw[hsg];rfl
   generalize (segs 61 s).map mkS=sg at hl2 h0;have hK:=mJ ms a (by omega);have hW:=lQ ms a (by omega);have hpz:=sO ms a 0 (by omega);rw[hc];simp(disch:=omega)only[ss,h0,hK,hW];by_cases c:a∈ms
   ·have ha0:a≠[]:=fun q=>hne (q ▸ c)
    rw[dp c,if_neg ha0,dp (show posF 0 ms a≥0 from hpz.1.2 c)];simp(disch:=omega)only[ss,pt,vt];exact aZ i 4
   ·have hw:¬(if a=[]then(-1:Int)else posF 0 ms a)≥0:=by
     split
     ·omega
     ·exact fun q=>c (hpz.1.1 q)
    rw[dn c,dn hw];have hsz:s.length=a.length+1+b.length:=by rw[hab];simp;omega
    have hx:(mkS s).extract (a.length+1) s.length=mkS b:=yH (by rw[←szS s,zK,B_mk,B_mk,hab,sK2];simp)
    have hvl:∀x,aB.l2a (p.map mkS) i sg false 0 0 0 0 0 false r.1 r.2.1 r.2.2.1 r.2.2.2.1 r.2.2.2.2.1 r.2.2.2.2.2.1 r.2.2.2.2.2.2.1 r.2.2.2.2.2.2.2.1 r.2.2.2.2.2.2.2.2.1 r.2.2.2.2.2.2.2.2.2.1 r.2.2.2.2.2.2.2.2.2.2.1 r.2.2.2.2.2.2.2.2.2.2.2.1 r.2.2.2.2.2.2.2.2.2.2.2.2.1 r.2.2.2.2.2.2.2.2.2.2.2.2.2.1 r.2.2.2.2.2.2.2.2.2.2.2.2.2.2.1 (ms.map mkS)=x↔((xB.f (r.1,r.2.1,r.2.2.1,r.2.2.2.1,r.2.2.2.2.1,r.2.2.2.2.2.1,r.2.2.2.2.2.2.1,r.2.2.2.2.2.2.2.1,r.2.2.2.2.2.2.2.2.1,r.2.2.2.2.2.2.2.2.2.1,r.2.2.2.2.2.2.2.2.2.2.1,r.2.2.2.2.2.2.2.2.2.2.2.1,r.2.2.2.2.2.2.2.2.2.2.2.2.1,r.2.2.2.2.2.2.2.2.2.2.2.2.2.1,r.2.2.2.2.2.2.2.2.2.2.2.2.2.2.1,()) (mkS a) (mkS b)).bind fun t9=>bif !t9.1 then(some (zR,(i:Int),4,()))else VA p (i+1) t9.2.1 (ms++[a]))=x:=fun x=>by
     rw[aB.l2a_eq];simp(disch:=omega)only[ss,h0,hml,hg,szS,rH2,tH2,hlim,hx];have:ms.map mkS++[mkS a]=(ms++[a]).map mkS:=by simp
     rw[this];rfl
    rw[(hvl _).2 rfl];simp only[cond_false];rcases fF1 r.1 r.2.1 r.2.2.1 r.2.2.2.1 r.2.2.2.2.1 r.2.2.2.2.2.1 r.2.2.2.2.2.2.1 r.2.2.2.2.2.2.2.1 r.2.2.2.2.2.2.2.2.1 r.2.2.2.2.2.2.2.2.2.1 r.2.2.2.2.2.2.2.2.2.2.1 r.2.2.2.2.2.2.2.2.2.2.2.1 r.2.2.2.2.2.2.2.2.2.2.2.2.1 r.2.2.2.2.2.2.2.2.2.2.2.2.2.1 r.2.2.2.2.2.2.2.2.2.2.2.2.2.2.1 a b (by omega)with⟨r',e1,e2,h60,hf1,hf2⟩ | ⟨r1,r2,e1,e2⟩
    ·have ha0:a≠[]:=fun q=>by subst q;obtain⟨r1,h1⟩:=tX1 r b;rw[h1]at e1;cases e1
     rw[e1,e2];simp only[pH2,cJ2,cond_false]
     have next:=ih (i+1) r' (ms++[a]) (by omega) (by omega) (by simp;omega) (h60 hr) (by
      intro q;rcases kI2.1 q with q | q
      ·exact hne q
      ·rw[xI2]at q;exact ha0 q.symm) (by
      rw[kI2,xI2];by_cases hF:a=FREQ
      ·exact⟨fun _=>hf1 hF,fun _=>.inr hF.symm⟩
      ·rw[hf2 hF]
       exact⟨fun q=>hfr.1 (q.resolve_right fun q=>hF q.symm),fun q=>.inl (hfr.2 q)⟩)
     rw[yA.l2a_eq];simp(disch:=omega)only[ss,tH2,rH2,hlim];have:ms.map mkS++[mkS a]=(ms++[a]).map mkS:=by simp
     rw[this];exact next
    ·rw[e1,e2];simp only[pH2,zJ2,cond_true];rw[yA.l2a_eq,cond_true];exact aZ i 4
theorem vY (s:List UInt8) (hs:s.length≤1000000):Both (yA.f (mkS s)) (aB.f (mkS s)):=by
 rw[yA.f_eq,aB.f_eq];by_cases c:(s.length:Int)>4096
 ·simp(disch:=omega)only[ss,szS];exact aZ 0 3
 ·have hsl:=gM 59 s;have hS:pD.f (mkS s) ⟨#[59]⟩=some ((segs 59 s).map mkS,()):=nK (c:=59) s (by omega);have hV:rB.f (mkS s) 59=some ((segs 59 s).map mkS,()):=cK 59 s (by omega);have hml:((segs 59 s).map mkS).length=(segs 59 s).length:=tH2 ..
  have hR:∀(x:List ByteArray) (n:Int),yA.l1 x n 0 0 0 0 0 0 false 0 1 0 0 0 false []=yA.l1a x n 0 0 0 0 0 0 false 0 1 0 0 0 false [] [] [] [] [] [] [] [] [] []:=fun x n=>by rw[yA.l1_eq,yA.l1a_eq];simp only[yA.l2_eq,yA.l2a_eq,cond_true]
  have hL:∀(x:List ByteArray) (i:Int) (y:List ByteArray) (b:Bool),aB.l2 x i y b 0 0 0 0 0 false 0 1 0 0 0 false []=aB.l2a x i y b 0 0 0 0 0 false 0 1 0 0 0 false [] [] [] [] [] [] [] [] [] []:=fun x i y b=>by rw[aB.l2_eq,aB.l2a_eq]
  have hQ:∀(x:List ByteArray),aB.l1 x 0 0 0 0 0 0 false 0 1 0 0 0 false []=aB.l1a x 0 0 0 0 0 0 false 0 1 0 0 0 false [] [] [] [] [] [] [] [] [] []:=fun x=>by rw[aB.l1_eq,aB.l1a_eq];simp only[hL]
  have:=hL1 (segs 59 s) (by omega) (fun t ht=>by have:=hsl.2 t ht;omega) _ 0 (0,1,0,0,0,false,[],[],[],[],[],[],[],[],[],()) [] rfl (uH2 _) (yH2 _) (by unfold sh60;simp) (by simp) (by simp);simp(disch:=omega)only[ss,szS,hS,hV,hR,hQ,hml];exact this
inductive Up where
 | fr (x:Int)
 | iv (x:Int)
 | ct (x:Int)
 | un (x:Int)
 | dy (x:List Dy)
 | wk (x:Int)
 | mo (x:List Int)
 | we (x:List Int)
 | yd (x:List Int)
 | md (x:List Int)
 | ho (x:List Int)
 | mi (x:List Int)
 | se (x:List Int)
 | po (x:List Int)
def Up.key :Up→List UInt8
 | .fr _=>[70,82,69,81]
 | .iv _=>[73,78,84,69,82,86,65,76]
 | .ct _=>[67,79,85,78,84]
 | .un _=>[85,78,84,73,76]
 | .dy _=>[66,89,68,65,89]
 | .wk _=>[87,75,83,84]
 | .mo _=>[66,89,77,79,78,84,72]
 | .we _=>[66,89,87,69,69,75,78,79]
 | .yd _=>[66,89,89,69,65,82,68,65,89]
 | .md _=>[66,89,77,79,78,84,72,68,65,89]
 | .ho _=>[66,89,72,79,85,82]
 | .mi _=>[66,89,77,73,78,85,84,69]
 | .se _=>[66,89,83,69,67,79,78,68]
 | .po _=>[66,89,83,69,84,80,79,83]
def Up.ap :Up→Rl→Rl
 | .fr x,(_,r1,r2,r3,r4,r5,r6,r7,r8,r9,r10,r11,r12,r13,r14,())=>(x,r1,r2,r3,r4,r5,r6,r7,r8,r9,r10,r11,r12,r13,r14,())
 | .iv x,(r0,_,r2,r3,r4,r5,r6,r7,r8,r9,r10,r11,r12,r13,r14,())=>(r0,x,r2,r3,r4,r5,r6,r7,r8,r9,r10,r11,r12,r13,r14,())
 | .ct x,(r0,r1,_,r3,r4,r5,r6,r7,r8,r9,r10,r11,r12,r13,r14,())=>(r0,r1,x,r3,r4,r5,r6,r7,r8,r9,r10,r11,r12,r13,r14,())
 | .un x,(r0,r1,r2,_,r4,_,r6,r7,r8,r9,r10,r11,r12,r13,r14,())=>(r0,r1,r2,x,r4,true,r6,r7,r8,r9,r10,r11,r12,r13,r14,())
 | .dy x,(r0,r1,r2,r3,r4,r5,r6,r7,r8,r9,_,r11,r12,r13,r14,())=>(r0,r1,r2,r3,r4,r5,r6,r7,r8,r9,x,r11,r12,r13,r14,())
 | .wk x,(r0,r1,r2,r3,_,r5,r6,r7,r8,r9,r10,r11,r12,r13,r14,())=>(r0,r1,r2,r3,x,r5,r6,r7,r8,r9,r10,r11,r12,r13,r14,())
 | .mo x,(r0,r1,r2,r3,r4,r5,_,r7,r8,r9,r10,r11,r12,r13,r14,())=>(r0,r1,r2,r3,r4,r5,x,r7,r8,r9,r10,r11,r12,r13,r14,())
 | .we x,(r0,r1,r2,r3,r4,r5,r6,_,r8,r9,r10,r11,r12,r13,r14,())=>(r0,r1,r2,r3,r4,r5,r6,x,r8,r9,r10,r11,r12,r13,r14,())
 | .yd x,(r0,r1,r2,r3,r4,r5,r6,r7,_,r9,r10,r11,r12,r13,r14,())=>(r0,r1,r2,r3,r4,r5,r6,r7,x,r9,r10,r11,r12,r13,r14,())
 | .md x,(r0,r1,r2,r3,r4,r5,r6,r7,r8,_,r10,r11,r12,r13,r14,())=>(r0,r1,r2,r3,r4,r5,r6,r7,r8,x,r10,r11,r12,r13,r14,())
 | .ho x,(r0,r1,r2,r3,r4,r5,r6,r7,r8,r9,r10,_,r12,r13,r14,())=>(r0,r1,r2,r3,r4,r5,r6,r7,r8,r9,r10,x,r12,r13,r14,())
 | .mi x,(r0,r1,r2,r3,r4,r5,r6,r7,r8,r9,r10,r11,_,r13,r14,())=>(r0,r1,r2,r3,r4,r5,r6,r7,r8,r9,r10,r11,x,r13,r14,())
 | .se x,(r0,r1,r2,r3,r4,r5,r6,r7,r8,r9,r10,r11,r12,_,r14,())=>(r0,r1,r2,r3,r4,r5,r6,r7,r8,r9,r10,r11,r12,x,r14,())
 | .po x,(r0,r1,r2,r3,r4,r5,r6,r7,r8,r9,r10,r11,r12,r13,_,())=>(r0,r1,r2,r3,r4,r5,r6,r7,r8,r9,r10,r11,r12,r13,x,())
def lO (name v:List UInt8):Prop:=(∃u:Up,u.key=name ∧ ∀r:Rl,jA.f r (mkS name) (mkS v)=some (true,u.ap r,()))∨(∀r:Rl,∃r1,jA.f r (mkS name) (mkS v)=some (false,r1,()))
theorem yK {α:Type} (name v:List UInt8) (hv:v.length≤50000) (X:Option α) (g:α→Bool) (u:α→Up) (hk:∀a,(u a).key=name)
  (h:∀r:Rl,jA.f r (mkS name) (mkS v)=X.bind fun t=>some (g t,(u t).ap r,())):lO name v:=by
 cases X with
 | none=>
  have h0:=h zR;rcases fF1 0 0 0 0 0 false [] [] [] [] [] [] [] [] [] name v hv with⟨r',e,_⟩ | ⟨r1,r2,e,_⟩
  ·rw[show zR=(0,0,0,0,0,false,[],[],[],[],[],[],[],[],[],())from rfl,e]at h0;cases h0
  ·rw[show zR=(0,0,0,0,0,false,[],[],[],[],[],[],[],[],[],())from rfl,e]at h0;cases h0
 | some a=>
  cases hg:g a with
  | true=>exact .inl ⟨u a,hk a,fun r=>by rw[h r,pH2,hg]⟩
  | false=>exact .inr fun r=>⟨(u a).ap r,by rw[h r,pH2,hg]⟩
theorem zU1 (v:List UInt8) (r:Rl):jA.f r (mkS [70,82,69,81]) (mkS v)=((rA.f (fw.map mkS) (mkS v))).bind fun t=>some ((fun t=>decide (w6 (t.1+1)>0)) t,(show Up from(fun t=>.fr (w6 (t.1+1))) t).ap r,()):=by obtain⟨r0,r1,r2,r3,r4,r5,r6,r7,r8,r9,r10,r11,r12,r13,r14,⟨⟩⟩:=r;rw[jA.f_eq];simp(disch:=decide)only[iE,nm0,nm1,nm2,nm3,nm4,nm5,nm6,nm7,nm8,nm9,nm10,nm11,nm12,nm13,dm,dp,dn,cond_true,cond_false];rw[wB1];rfl
theorem pA2 (v:List UInt8) (hv:v.length≤50000):lO [70,82,69,81] v:=yK [70,82,69,81] v hv ((rA.f (fw.map mkS) (mkS v))) (fun t=>decide (w6 (t.1+1)>0)) (fun t=>.fr (w6 (t.1+1))) (fun _=>rfl) (zU1 v)
theorem rE1 (v:List UInt8) (r:Rl):jA.f r (mkS [73,78,84,69,82,86,65,76]) (mkS v)=(yE.f (mkS v)).bind fun t=>some ((fun t=>t.2.1) t,(show Up from(fun t=>.iv t.1) t).ap r,()):=by obtain⟨r0,r1,r2,r3,r4,r5,r6,r7,r8,r9,r10,r11,r12,r13,r14,⟨⟩⟩:=r;rw[jA.f_eq];simp(disch:=decide)only[iE,nm0,nm1,nm2,nm3,nm4,nm5,nm6,nm7,nm8,nm9,nm10,nm11,nm12,nm13,dm,dp,dn,cond_true,cond_false];rfl
theorem lH1 (v:List UInt8) (hv:v.length≤50000):lO [73,78,84,69,82,86,65,76] v:=yK [73,78,84,69,82,86,65,76] v hv (yE.f (mkS v)) (fun t=>t.2.1) (fun t=>.iv t.1) (fun _=>rfl) (rE1 v)
theorem sT1 (v:List UInt8) (r:Rl):jA.f r (mkS [67,79,85,78,84]) (mkS v)=(yE.f (mkS v)).bind fun t=>some ((fun t=>t.2.1) t,(show Up from(fun t=>.ct t.1) t).ap r,()):=by obtain⟨r0,r1,r2,r3,r4,r5,r6,r7,r8,r9,r10,r11,r12,r13,r14,⟨⟩⟩:=r;rw[jA.f_eq];simp(disch:=decide)only[iE,nm0,nm1,nm2,nm3,nm4,nm5,nm6,nm7,nm8,nm9,nm10,nm11,nm12,nm13,dm,dp,dn,cond_true,cond_false];rfl
theorem fW1 (v:List UInt8) (hv:v.length≤50000):lO [67,79,85,78,84] v:=yK [67,79,85,78,84] v hv (yE.f (mkS v)) (fun t=>t.2.1) (fun t=>.ct t.1) (fun _=>rfl) (sT1 v)
theorem bP1 (v:List UInt8) (r:Rl):jA.f r (mkS [85,78,84,73,76]) (mkS v)=(iB.f (mkS v)).bind fun t=>some ((fun t=>decide (t.2.1=0)) t,(show Up from(fun t=>.un t.1) t).ap r,()):=by obtain⟨r0,r1,r2,r3,r4,r5,r6,r7,r8,r9,r10,r11,r12,r13,r14,⟨⟩⟩:=r;rw[jA.f_eq];simp(disch:=decide)only[iE,nm0,nm1,nm2,nm3,nm4,nm5,nm6,nm7,nm8,nm9,nm10,nm11,nm12,nm13,dm,dp,dn,cond_true,cond_false];rfl
theorem gU1 (v:List UInt8) (hv:v.length≤50000):lO [85,78,84,73,76] v:=yK [85,78,84,73,76] v hv (iB.f (mkS v)) (fun t=>decide (t.2.1=0)) (fun t=>.un t.1) (fun _=>rfl) (bP1 v)
theorem eP1 (v:List UInt8) (r:Rl):jA.f r (mkS [66,89,68,65,89]) (mkS v)=(bD.f (mkS v)).bind fun t=>some ((fun t=>t.2.1) t,(show Up from(fun t=>.dy t.1) t).ap r,()):=by obtain⟨r0,r1,r2,r3,r4,r5,r6,r7,r8,r9,r10,r11,r12,r13,r14,⟨⟩⟩:=r;rw[jA.f_eq];simp(disch:=decide)only[iE,nm0,nm1,nm2,nm3,nm4,nm5,nm6,nm7,nm8,nm9,nm10,nm11,nm12,nm13,dm,dp,dn,cond_true,cond_false];rfl
theorem lU1 (v:List UInt8) (hv:v.length≤50000):lO [66,89,68,65,89] v:=yK [66,89,68,65,89] v hv (bD.f (mkS v)) (fun t=>t.2.1) (fun t=>.dy t.1) (fun _=>rfl) (eP1 v)
theorem iU1 (v:List UInt8) (r:Rl):jA.f r (mkS [87,75,83,84]) (mkS v)=((rA.f (wd.map mkS) (mkS v))).bind fun t=>some ((fun t=>decide (t.1≥0)) t,(show Up from(fun t=>.wk t.1) t).ap r,()):=by obtain⟨r0,r1,r2,r3,r4,r5,r6,r7,r8,r9,r10,r11,r12,r13,r14,⟨⟩⟩:=r;rw[jA.f_eq];simp(disch:=decide)only[iE,nm0,nm1,nm2,nm3,nm4,nm5,nm6,nm7,nm8,nm9,nm10,nm11,nm12,nm13,dm,dp,dn,cond_true,cond_false];rw[nI];rfl
theorem eC2 (v:List UInt8) (hv:v.length≤50000):lO [87,75,83,84] v:=yK [87,75,83,84] v hv ((rA.f (wd.map mkS) (mkS v))) (fun t=>decide (t.1≥0)) (fun t=>.wk t.1) (fun _=>rfl) (iU1 v)
theorem eI1 (v:List UInt8) (r:Rl):jA.f r (mkS [66,89,77,79,78,84,72]) (mkS v)=(fC.f (mkS v)).bind fun t=>some ((fun t=>t.2.1) t,(show Up from(fun t=>.mo t.1) t).ap r,()):=by obtain⟨r0,r1,r2,r3,r4,r5,r6,r7,r8,r9,r10,r11,r12,r13,r14,⟨⟩⟩:=r;rw[jA.f_eq];simp(disch:=decide)only[iE,nm0,nm1,nm2,nm3,nm4,nm5,nm6,nm7,nm8,nm9,nm10,nm11,nm12,nm13,dm,dp,dn,cond_true,cond_false];rw[jA.l1_eq];rfl
theorem fL1 (v:List UInt8) (hv:v.length≤50000):lO [66,89,77,79,78,84,72] v:=yK [66,89,77,79,78,84,72] v hv (fC.f (mkS v)) (fun t=>t.2.1) (fun t=>.mo t.1) (fun _=>rfl) (eI1 v)
theorem sD1 (v:List UInt8) (r:Rl):jA.f r (mkS [66,89,87,69,69,75,78,79]) (mkS v)=(fC.f (mkS v)).bind fun t=>some ((fun t=>t.2.1) t,(show Up from(fun t=>.we t.1) t).ap r,()):=by obtain⟨r0,r1,r2,r3,r4,r5,r6,r7,r8,r9,r10,r11,r12,r13,r14,⟨⟩⟩:=r;rw[jA.f_eq];simp(disch:=decide)only[iE,nm0,nm1,nm2,nm3,nm4,nm5,nm6,nm7,nm8,nm9,nm10,nm11,nm12,nm13,dm,dp,dn,cond_true,cond_false];rw[jA.l1a_eq];rfl
theorem fH1 (v:List UInt8) (hv:v.length≤50000):lO [66,89,87,69,69,75,78,79] v:=yK [66,89,87,69,69,75,78,79] v hv (fC.f (mkS v)) (fun t=>t.2.1) (fun t=>.we t.1) (fun _=>rfl) (sD1 v)
theorem wA1 (v:List UInt8) (r:Rl):jA.f r (mkS [66,89,89,69,65,82,68,65,89]) (mkS v)=(fC.f (mkS v)).bind fun t=>some ((fun t=>t.2.1) t,(show Up from(fun t=>.yd t.1) t).ap r,()):=by obtain⟨r0,r1,r2,r3,r4,r5,r6,r7,r8,r9,r10,r11,r12,r13,r14,⟨⟩⟩:=r;rw[jA.f_eq];simp(disch:=decide)only[iE,nm0,nm1,nm2,nm3,nm4,nm5,nm6,nm7,nm8,nm9,nm10,nm11,nm12,nm13,dm,dp,dn,cond_true,cond_false];rw[jA.l1b_eq];rfl
theorem vE1 (v:List UInt8) (hv:v.length≤50000):lO [66,89,89,69,65,82,68,65,89] v:=yK [66,89,89,69,65,82,68,65,89] v hv (fC.f (mkS v)) (fun t=>t.2.1) (fun t=>.yd t.1) (fun _=>rfl) (wA1 v)
theorem sX (v:List UInt8) (r:Rl):jA.f r (mkS [66,89,77,79,78,84,72,68,65,89]) (mkS v)=(fC.f (mkS v)).bind fun t=>some ((fun t=>t.2.1) t,(show Up from(fun t=>.md t.1) t).ap r,()):=by obtain⟨r0,r1,r2,r3,r4,r5,r6,r7,r8,r9,r10,r11,r12,r13,r14,⟨⟩⟩:=r;rw[jA.f_eq];simp(disch:=decide)only[iE,nm0,nm1,nm2,nm3,nm4,nm5,nm6,nm7,nm8,nm9,nm10,nm11,nm12,nm13,dm,dp,dn,cond_true,cond_false];rw[jA.l1c_eq];rfl
theorem tC1 (v:List UInt8) (hv:v.length≤50000):lO [66,89,77,79,78,84,72,68,65,89] v:=yK [66,89,77,79,78,84,72,68,65,89] v hv (fC.f (mkS v)) (fun t=>t.2.1) (fun t=>.md t.1) (fun _=>rfl) (sX v)
theorem wM1 (v:List UInt8) (r:Rl):jA.f r (mkS [66,89,72,79,85,82]) (mkS v)=(fC.f (mkS v)).bind fun t=>some ((fun t=>t.2.1) t,(show Up from(fun t=>.ho t.1) t).ap r,()):=by obtain⟨r0,r1,r2,r3,r4,r5,r6,r7,r8,r9,r10,r11,r12,r13,r14,⟨⟩⟩:=r;rw[jA.f_eq];simp(disch:=decide)only[iE,nm0,nm1,nm2,nm3,nm4,nm5,nm6,nm7,nm8,nm9,nm10,nm11,nm12,nm13,dm,dp,dn,cond_true,cond_false];rw[jA.l1d_eq];rfl
theorem lR1 (v:List UInt8) (hv:v.length≤50000):lO [66,89,72,79,85,82] v:=yK [66,89,72,79,85,82] v hv (fC.f (mkS v)) (fun t=>t.2.1) (fun t=>.ho t.1) (fun _=>rfl) (wM1 v)
theorem cD1 (v:List UInt8) (r:Rl):jA.f r (mkS [66,89,77,73,78,85,84,69]) (mkS v)=(fC.f (mkS v)).bind fun t=>some ((fun t=>t.2.1) t,(show Up from(fun t=>.mi t.1) t).ap r,()):=by obtain⟨r0,r1,r2,r3,r4,r5,r6,r7,r8,r9,r10,r11,r12,r13,r14,⟨⟩⟩:=r;rw[jA.f_eq];simp(disch:=decide)only[iE,nm0,nm1,nm2,nm3,nm4,nm5,nm6,nm7,nm8,nm9,nm10,nm11,nm12,nm13,dm,dp,dn,cond_true,cond_false];rw[jA.l1e_eq];rfl
theorem oH1 (v:List UInt8) (hv:v.length≤50000):lO [66,89,77,73,78,85,84,69] v:=yK [66,89,77,73,78,85,84,69] v hv (fC.f (mkS v)) (fun t=>t.2.1) (fun t=>.mi t.1) (fun _=>rfl) (cD1 v)
theorem kE1 (v:List UInt8) (r:Rl):jA.f r (mkS [66,89,83,69,67,79,78,68]) (mkS v)=(fC.f (mkS v)).bind fun t=>some ((fun t=>t.2.1) t,(show Up from(fun t=>.se t.1) t).ap r,()):=by obtain⟨r0,r1,r2,r3,r4,r5,r6,r7,r8,r9,r10,r11,r12,r13,r14,⟨⟩⟩:=r;rw[jA.f_eq];simp(disch:=decide)only[iE,nm0,nm1,nm2,nm3,nm4,nm5,nm6,nm7,nm8,nm9,nm10,nm11,nm12,nm13,dm,dp,dn,cond_true,cond_false];rw[jA.l1f_eq];rfl
theorem tH1 (v:List UInt8) (hv:v.length≤50000):lO [66,89,83,69,67,79,78,68] v:=yK [66,89,83,69,67,79,78,68] v hv (fC.f (mkS v)) (fun t=>t.2.1) (fun t=>.se t.1) (fun _=>rfl) (kE1 v)
theorem tD1 (v:List UInt8) (r:Rl):jA.f r (mkS [66,89,83,69,84,80,79,83]) (mkS v)=(fC.f (mkS v)).bind fun t=>some ((fun t=>t.2.1) t,(show Up from(fun t=>.po t.1) t).ap r,()):=by obtain⟨r0,r1,r2,r3,r4,r5,r6,r7,r8,r9,r10,r11,r12,r13,r14,⟨⟩⟩:=r;rw[jA.f_eq];simp(disch:=decide)only[iE,nm0,nm1,nm2,nm3,nm4,nm5,nm6,nm7,nm8,nm9,nm10,nm11,nm12,nm13,dm,dp,dn,cond_true,cond_false];rw[jA.l1g_eq];rfl
theorem qG1 (v:List UInt8) (hv:v.length≤50000):lO [66,89,83,69,84,80,79,83] v:=yK [66,89,83,69,84,80,79,83] v hv (fC.f (mkS v)) (fun t=>t.2.1) (fun t=>.po t.1) (fun _=>rfl) (tD1 v)
theorem uC2 (name v:List UInt8) (hv:v.length≤50000):lO name v:=by
 by_cases h0:name=[70,82,69,81]
 ·subst h0;exact pA2 v hv
 by_cases h1:name=[73,78,84,69,82,86,65,76]
 ·subst h1;exact lH1 v hv
 by_cases h2:name=[67,79,85,78,84]
 ·subst h2;exact fW1 v hv
 by_cases h3:name=[85,78,84,73,76]
 ·subst h3;exact gU1 v hv
 by_cases h4:name=[66,89,68,65,89]
 ·subst h4;exact lU1 v hv
 by_cases h5:name=[87,75,83,84]
 ·subst h5;exact eC2 v hv
 by_cases h6:name=[66,89,77,79,78,84,72]
 ·subst h6;exact fL1 v hv
 by_cases h7:name=[66,89,87,69,69,75,78,79]
 ·subst h7;exact fH1 v hv
 by_cases h8:name=[66,89,89,69,65,82,68,65,89]
 ·subst h8;exact vE1 v hv
 by_cases h9:name=[66,89,77,79,78,84,72,68,65,89]
 ·subst h9;exact tC1 v hv
 by_cases h10:name=[66,89,72,79,85,82]
 ·subst h10;exact lR1 v hv
 by_cases h11:name=[66,89,77,73,78,85,84,69]
 ·subst h11;exact oH1 v hv
 by_cases h12:name=[66,89,83,69,67,79,78,68]
 ·subst h12;exact tH1 v hv
 by_cases h13:name=[66,89,83,69,84,80,79,83]
 ·subst h13;exact qG1 v hv
 refine .inr fun r=>?_
 rw[jA.f_eq];simp only[iE,nm0,nm1,nm2,nm3,nm4,nm5,nm6,nm7,nm8,nm9,nm10,nm11,nm12,nm13,dm,dn h0,dn h1,dn h2,dn h3,dn h4,dn h5,dn h6,dn h7,dn h8,dn h9,dn h10,dn h11,dn h12,dn h13,cond_false];rw[jA.l1h_eq];exact⟨_,rfl⟩
def Good (s:List UInt8) (u:Up):Prop:=∃b,s=u.key++61::b∧(61:UInt8)∉u.key ∧ ∀r:Rl,jA.f r (mkS u.key) (mkS b)=some (true,u.ap r,())
def Bad (s:List UInt8):Prop:=∀a b,s=a++61::b→(61:UInt8)∉a → ∀r:Rl,∃r1,jA.f r (mkS a) (mkS b)=some (false,r1,())
theorem bQ {c:UInt8}:∀{a a' b b':List UInt8},a++c::b=a'++c::b'→c∉a→c∉a'→a=a'∧b=b'
 | [],[],b,b',h,_,_=>by simpa using h
 | [],x::a',b,b',h,_,h2=>by simp at h;exact absurd (h.1 ▸ wH2 ..) h2
 | x::a,[],b,b',h,h1,_=>by simp at h;exact absurd (h.1 ▸ wH2 ..) h1
 | x::a,y::a',b,b',h,h1,h2=>by simp at h;obtain⟨e,h⟩:=h;obtain⟨e1,e2⟩:=bQ h (fun q=>h1 (xH2 _ q)) (fun q=>h2 (xH2 _ q));exact⟨by rw[e,e1],e2⟩
theorem yZ1 (s:List UInt8) (hs:s.length≤50000):(∃u,Good s u)∨Bad s:=by
 rcases iI (c:=(61:UInt8)) (l:=s)with hno | ⟨a,b,hab,ha⟩
 ·exact .inr fun a b e _=>absurd (by rw[e];simp) hno
 ·have hb:b.length≤50000:=by rw[hab]at hs;simp at hs;omega
  rcases uC2 a b hb with⟨u,hk,h⟩ | h
  ·subst hk;exact .inl ⟨u,b,hab,ha,h⟩
  ·refine .inr fun a' b' e ha'=>?_
   obtain⟨e1,e2⟩:=bQ (hab ▸ e) ha ha';subst e1 e2;exact h
theorem bX1 {s:List UInt8} {u:Up} (h:Good s u) (g:Bad s):False:=by obtain⟨b,e,hn,h⟩:=h;obtain⟨r1,h1⟩:=g _ _ e hn zR;rw[h zR]at h1;cases h1
theorem iT1 {s:List UInt8} {u w:Up} (h:Good s u) (g:Good s w):u.key=w.key ∧ ∀r:Rl,u.ap r=w.ap r:=by obtain⟨b,e,hn,h⟩:=h;obtain⟨b',e',hn',g⟩:=g;obtain⟨e1,e2⟩:=bQ (e ▸ e') hn hn';refine⟨e1,fun r=>?_⟩;subst e2;have:=h r;rw[e1,g r]at this;exact(Prod.mk.inj (Prod.mk.inj (sI2 this)).2).1.symm
def keys (us:List Up):List (List UInt8):=us.map Up.key
def oN1 (r:Rl) (us:List Up):Rl:=us.foldl (fun r u=>u.ap r) r
noncomputable def fin (r:Rl) (ms:List (List UInt8)):Option (Rl×Int×Int×Unit):=
 if FREQ∈ms then(wA.f r).bind fun t=>bif !t.1 then some (zR,0,1,())else some (r,0,0,())else some (zR,0,7,())
theorem fP1 (p:List (List UInt8)) (hp:p.length≤10000) (hpl:∀s∈p,s.length≤5000):∀(k i:Nat) (r:Rl) (ms:List (List UInt8)),p.length-i=k→i≤p.length→ms.length≤i →
  (∀us,All2 Good (p.drop i) us→(∀u∈us,u.key∉ms)→(keys us).Nodup→PA p i r ms=fin (oN1 r us) (ms++keys us)) ∧
  ((¬ ∃us,All2 Good (p.drop i) us∧(∀u∈us,u.key∉ms)∧(keys us).Nodup) → ∃n:Nat,PA p i r ms=some (zR,(n:Int),4,())):=by
 have hlim:uC=17179869184:=rfl;have hml:(p.map mkS).length=p.length:=tH2 ..;intro k
 induction k with
 | zero=>
  intro i r ms hk hil hms;have e:i=p.length:=by omega
  subst e;rw[fJ2];refine⟨fun us hus _ _=>?_,fun h=>absurd ⟨[],trivial,by simp,by simp[keys]⟩ h⟩
  cases us with
  | cons _ _=>exact hus.elim
  | nil=>
   have hC:zB.f (ms.map mkS) ⟨#[70,82,69,81]⟩=some (decide (FREQ∈ms),()):=mJ ms FREQ (by omega);have hk0:ms++keys []=ms:=by simp[keys]
   rw[hk0];unfold PA;rw[yA.l1a_eq];simp(disch:=omega)only[ss,hml,hC];unfold fin;by_cases c:FREQ∈ms
   ·rw[dp c,if_pos c];rfl
   ·rw[dn c,if_neg c];rfl
 | succ k ih=>
  intro i r ms hk hil hms;have hlt:i<p.length:=by omega
  have hg:=gm p i hlt;have hsl:=hpl _ (iD [] hlt);have pt:∀x9:ByteArray,yA.l2a i x9 (p.map mkS) p.length i true 0 0 0 0 0 false r.1 r.2.1 r.2.2.1 r.2.2.2.1 r.2.2.2.2.1 r.2.2.2.2.2.1 r.2.2.2.2.2.2.1 r.2.2.2.2.2.2.2.1 r.2.2.2.2.2.2.2.2.1 r.2.2.2.2.2.2.2.2.2.1 r.2.2.2.2.2.2.2.2.2.2.1 r.2.2.2.2.2.2.2.2.2.2.2.1 r.2.2.2.2.2.2.2.2.2.2.2.2.1 r.2.2.2.2.2.2.2.2.2.2.2.2.2.1 r.2.2.2.2.2.2.2.2.2.2.2.2.2.2.1 (ms.map mkS)=some (zR,(i:Int),4,()):=fun x9=>by rw[yA.l2a_eq,cond_true];rfl
  rw[oC [] hlt];generalize hs:p.getD i []=s at hg hsl;have yQ:PA p i r ms=PA p i r ms:=rfl;unfold PA at yQ;rcases iI (c:=(61:UInt8)) (l:=s)with hno | ⟨a,b,hab,ha⟩
  ·have hc:aE.f (mkS s) ⟨#[61]⟩=some (mkS s,mkS [],false,()):=yT (s:=mkS s) (c:=61) hno;refine⟨fun us hus _ _=>?_,fun _=>⟨i,?_⟩⟩
   ·cases us with
    | nil=>exact hus.elim
    | cons u us=>
     obtain⟨b,e,_⟩:=hus.1;exact absurd (by rw[e];simp) hno
   ·unfold PA;rw[yA.l1a_eq];simp(disch:=omega)only[ss,hml,hg];rw[hc];simp(disch:=omega)only[ss,pt]
  ·have hab2:a.length+b.length≤5000:=by rw[hab]at hsl;simp at hsl;omega
   have hc:aE.f (mkS s) ⟨#[61]⟩=some (mkS a,mkS b,true,()):=by rw[hab];exact nT (c:=61) (by omega) ha
   have hK:=mJ ms a (by omega)
   have gk:∀u,Good s u→u.key=a:=fun u h=>by obtain⟨b',e,hn,_⟩:=h;exact(bQ (hab ▸ e) ha hn).1.symm
   by_cases c:a∈ms
   ·refine⟨fun us hus hm _=>?_,fun _=>⟨i,?_⟩⟩
    ·cases us with
     | nil=>exact hus.elim
     | cons u us=>exact absurd ((gk u hus.1).symm ▸ c) (hm u (by simp))
    ·unfold PA;rw[yA.l1a_eq];simp(disch:=omega)only[ss,hml,hg];rw[hc];simp(disch:=omega)only[ss,hK,dp c];exact pt _
   ·have step:∀x,PA p i r ms=x↔((jA.f (r.1,r.2.1,r.2.2.1,r.2.2.2.1,r.2.2.2.2.1,r.2.2.2.2.2.1,r.2.2.2.2.2.2.1,r.2.2.2.2.2.2.2.1,r.2.2.2.2.2.2.2.2.1,r.2.2.2.2.2.2.2.2.2.1,r.2.2.2.2.2.2.2.2.2.2.1,r.2.2.2.2.2.2.2.2.2.2.2.1,r.2.2.2.2.2.2.2.2.2.2.2.2.1,r.2.2.2.2.2.2.2.2.2.2.2.2.2.1,r.2.2.2.2.2.2.2.2.2.2.2.2.2.2.1,()) (mkS a) (mkS b)).bind fun t9=>bif !t9.1 then(some (zR,(i:Int),4,()))else PA p (i+1) t9.2.1 (ms++[a]))=x:=fun x=>by
     have e1:ms.map mkS++[mkS a]=(ms++[a]).map mkS:=by simp
     have:PA p i r ms=((jA.f (r.1,r.2.1,r.2.2.1,r.2.2.2.1,r.2.2.2.2.1,r.2.2.2.2.2.1,r.2.2.2.2.2.2.1,r.2.2.2.2.2.2.2.1,r.2.2.2.2.2.2.2.2.1,r.2.2.2.2.2.2.2.2.2.1,r.2.2.2.2.2.2.2.2.2.2.1,r.2.2.2.2.2.2.2.2.2.2.2.1,r.2.2.2.2.2.2.2.2.2.2.2.2.1,r.2.2.2.2.2.2.2.2.2.2.2.2.2.1,r.2.2.2.2.2.2.2.2.2.2.2.2.2.2.1,()) (mkS a) (mkS b)).bind fun t9=>bif !t9.1 then(some (zR,(i:Int),4,()))else PA p (i+1) t9.2.1 (ms++[a])):=by
      unfold PA;rw[yA.l1a_eq];simp(disch:=omega)only[ss,hml,hg];rw[hc];simp(disch:=omega)only[ss,hK,dn c]
      congr 1
      funext t9
      rw[yA.l2a_eq]
      cases t9.1 with
      | false=>rfl
      | true=>
       simp(disch:=omega)only[ss,tH2,rH2,hlim];rw[e1];rfl
     rw[this]
    rcases yZ1 s (by omega)with⟨u,hu⟩ | hbad
    ·have hk':=gk u hu;obtain⟨b',e,hn,hu'⟩:=id hu;have e2:=(bQ (hab ▸ e) ha hn).2;subst e2;have hpart:jA.f (r.1,r.2.1,r.2.2.1,r.2.2.2.1,r.2.2.2.2.1,r.2.2.2.2.2.1,r.2.2.2.2.2.2.1,r.2.2.2.2.2.2.2.1,r.2.2.2.2.2.2.2.2.1,r.2.2.2.2.2.2.2.2.2.1,r.2.2.2.2.2.2.2.2.2.2.1,r.2.2.2.2.2.2.2.2.2.2.2.1,r.2.2.2.2.2.2.2.2.2.2.2.2.1,r.2.2.2.2.2.2.2.2.2.2.2.2.2.1,r.2.2.2.2.2.2.2.2.2.2.2.2.2.2.1,()) (mkS a) (mkS b)=some (true,u.ap r,()):=by rw[←hk'];exact hu' r
     have go:PA p i r ms=PA p (i+1) (u.ap r) (ms++[a]):=(step _).2 (by rw[hpart];rfl);obtain⟨n1,n2⟩:=ih (i+1) (u.ap r) (ms++[a]) (by omega) (by omega) (by simp;omega);refine⟨fun us hus hm hnd=>?_,fun h=>?_⟩
     ·cases us with
      | nil=>exact hus.elim
      | cons w us=>
       obtain⟨ew,ef⟩:=iT1 hus.1 hu;have hnd':w.key∉keys us∧(keys us).Nodup:=oK2.1 hnd
       have:=n1 us hus.2 (fun v hv q=>by
        rcases kI2.1 q with q | q
        ·exact hm v (xH2 _ hv) q
        ·rw[xI2]at q
         exact hnd'.1 (by rw[ew,hk',←q];exact pI2.2 ⟨v,hv,rfl⟩)) hnd'.2
       rw[go,this,dI2];show fin (oN1 (u.ap r) us) (ms++([a]++keys us))=fin (oN1 (w.ap r) us) (ms++(w.key::keys us));rw[ew,hk',ef r];rfl
     ·rw[go];refine n2 fun⟨us,h1,h2,h3⟩=>h ⟨u::us,⟨hu,h1⟩,?_,?_⟩
      ·intro v hv q;rcases vH2.1 hv with e | hv
       ·subst e;exact c (hk' ▸ q)
       ·exact h2 v hv (jI2 _ q)
      ·refine oK2.2 ⟨fun q=>?_,h3⟩;obtain⟨v,hv,e⟩:=pI2.1 q;exact h2 v hv (by rw[e,hk'];simp)
    ·refine⟨fun us hus _ _=>?_,fun _=>⟨i,?_⟩⟩
     ·cases us with
      | nil=>exact hus.elim
      | cons u us=>exact(bX1 hus.1 hbad).elim
     ·obtain⟨r1,h1⟩:=hbad a b hab ha r;refine(step _).2 ?_;rw[show jA.f (r.1,r.2.1,r.2.2.1,r.2.2.2.1,r.2.2.2.2.1,r.2.2.2.2.2.1,r.2.2.2.2.2.2.1,r.2.2.2.2.2.2.2.1,r.2.2.2.2.2.2.2.2.1,r.2.2.2.2.2.2.2.2.2.1,r.2.2.2.2.2.2.2.2.2.2.1,r.2.2.2.2.2.2.2.2.2.2.2.1,r.2.2.2.2.2.2.2.2.2.2.2.2.1,r.2.2.2.2.2.2.2.2.2.2.2.2.2.1,r.2.2.2.2.2.2.2.2.2.2.2.2.2.2.1,()) (mkS a) (mkS b)=some (false,r1,())from h1];rfl
def jn (c:UInt8):List (List UInt8)→List UInt8
 | []=>[]
 | [a]=>a
 | a::b::l=>a++c::jn c (b::l)
theorem wZ (c:UInt8):∀(l:List (List UInt8)) (n:List UInt8),jn c (l++[n])=if l=[]then n else jn c l++c::n
 | [],n=>rfl
 | [m],n=>rfl
 | m::k::l,n=>by have ih:=wZ c (k::l) n;rw[if_neg (by simp)]at ih;rw[if_neg (by simp)];show m++c::jn c (k::l++[n])=(m++c::jn c (k::l))++c::n;rw[ih];simp
def tot :List (List UInt8)→Nat
 | []=>0
 | a::l=>a.length+tot l
theorem gZ1 (c:UInt8):∀(l:List (List UInt8)),l≠[]→(jn c l).length+1=tot l+l.length
 | [],h=>absurd rfl h
 | [n],_=>by simp[jn,tot]
 | n::m::l,_=>by have:=gZ1 c (m::l) (by simp);show(n++c::jn c (m::l)).length+1=n.length+tot (m::l)+_;rw[oH2,zH2,zH2];omega
theorem cX1 (c:UInt8):∀(l:List (List UInt8)),(jn c l).length≤tot l+l.length
 | []=>uH2 _
 | a::l=>by have:=gZ1 c (a::l) (by simp);omega
theorem eqI (a:List Int) (ha:a.length≤1000000):tA.f a a=some (true,()):=by
 have key:∀(k i:Nat),a.length-i=k→i≤a.length→tA.l1 a a a.length i=some (true,()):=by
  intro k
  induction k with
  | zero=>
   intro i hk hia;rw[tA.l1_eq];simp(disch:=omega)only[ss]
  | succ k ih=>
   intro i hk hia;rw[tA.l1_eq];simp(disch:=omega)only[ss];exact ih (i+1) (by omega) (by omega)
 rw[tA.f_eq];have:=key _ 0 rfl (uH2 _);rw[eI2]at this;simp(disch:=omega)only[ss,this]
theorem eqD (a:List Dy) (ha:a.length≤1000000):uA.f a a=some (true,()):=by
 have key:∀(k i:Nat),a.length-i=k→i≤a.length→uA.l1 a a a.length i=some (true,()):=by
  intro k
  induction k with
  | zero=>
   intro i hk hia;rw[uA.l1_eq];simp(disch:=omega)only[ss]
  | succ k ih=>
   intro i hk hia;rw[uA.l1_eq];simp(disch:=omega)only[ss];exact ih (i+1) (by omega) (by omega)
 rw[uA.f_eq];have:=key _ 0 rfl (uH2 _);rw[eI2]at this;simp(disch:=omega)only[ss,this]
theorem eU1 (s:List UInt8) (hs:s.length≤4096):yA.f (mkS s)=PA (segs 59 s) 0 (0,1,0,0,0,false,[],[],[],[],[],[],[],[],[],()) []:=by
 have hsl:=gM 59 s;have hS:pD.f (mkS s) ⟨#[59]⟩=some ((segs 59 s).map mkS,()):=nK (c:=59) s (by omega);have hml:((segs 59 s).map mkS).length=(segs 59 s).length:=tH2 ..
 have hR:∀(x:List ByteArray) (n:Int),yA.l1 x n 0 0 0 0 0 0 false 0 1 0 0 0 false []=yA.l1a x n 0 0 0 0 0 0 false 0 1 0 0 0 false [] [] [] [] [] [] [] [] [] []:=fun x n=>by rw[yA.l1_eq,yA.l1a_eq];simp only[yA.l2_eq,yA.l2a_eq,cond_true]
 rw[yA.f_eq];simp(disch:=omega)only[ss,szS,hS,hR,hml];rfl
end Go.GV.YtegmfagkklekaaaGreatDoor
