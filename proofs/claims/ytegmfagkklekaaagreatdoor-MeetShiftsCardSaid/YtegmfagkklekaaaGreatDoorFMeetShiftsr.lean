/-
Part of the words that MeetShifts is proved with: no statement of its own, no conditions.
-/
import Derived.Test.YtegmfagkklekaaaGreatDoorFMeetShiftsq
set_option linter.unusedVariables false
set_option linter.unusedSimpArgs false
namespace Go.GV.YtegmfagkklekaaaGreatDoor
open Go.Proofs
abbrev Yl :Type:=Int×Int×Int×Int×Int×Unit
abbrev zYl :Yl:=(0,0,0,0,0,())
abbrev zSh :Sp:=(0,0,())
def offP (n:Int):Prop:= -64800≤n∧n≤64800
theorem bL (n:Int):yC (kF.f n) (offP n):=by
 unfold offP;rw[kF.f_eq];by_cases c:n ≥ -64800
 ·rw[dp c];exact⟨_,rfl,by rw[decide_eq_true_eq];omega⟩
 ·rw[dn c];exact⟨_,rfl,by simp;omega⟩
def okS (l:List Sp) (j:Nat):Prop:=inT (l.getD j zSh).1∧offP (l.getD j zSh).2.1∧(0<j→(l.getD (j-1) zSh).1+200000≤(l.getD j zSh).1)
def mU (l:List Sp):Prop:=(∀j,j<l.length→okS l j)∧l.length≤64
theorem hK1 (l:List Sp) (hl:l.length≤1000000):∀(k i:Nat),l.length-i=k→i≤l.length→(∀j,j<i→inT (l.getD j zSh).1) →
  yC (cB.l1 l l (l.length:Int) (i:Int)) ((∀j,i≤j→j<l.length→okS l j)∧l.length≤64):=by
 intro k
 induction k with
 | zero=>
  intro i hk hil _;rw[cB.l1_eq];simp(disch:=omega)only[ss];refine⟨_,rfl,?_⟩;rw[decide_eq_true_eq];exact⟨fun h=>⟨fun j h1 h2=>by omega,by omega⟩,fun h=>by omega⟩
 | succ k ih=>
  intro i hk hil hin;have hlt:i<l.length:=by omega
  have step:okS l i→yC (cB.l2 l l (l.length:Int) (i:Int) false) ((∀j,i≤j→j<l.length→okS l j)∧l.length≤64):=fun h=>by
   rw[cB.l2_eq];simp(disch:=omega)only[ss];refine(ih (i+1) (by omega) (by omega) fun j hj=>?_).iff ⟨fun q=>⟨fun j h1 h2=>?_,q.2⟩,fun q=>⟨fun j h1 h2=>q.1 j (by omega) h2,q.2⟩⟩
   ·by_cases e:j=i
    ·subst e;exact h.1
    ·exact hin j (by omega)
   ·by_cases e:j=i
    ·subst e;exact h
    ·exact q.1 j (by omega) h2
  have stop:¬okS l i→yC (cB.l2 l l (l.length:Int) (i:Int) true) ((∀j,i≤j→j<l.length→okS l j)∧l.length≤64):=fun h=>by rw[cB.l2_eq,cond_true];exact⟨false,rfl,by simp;intro q;exact absurd (q i (iX1 _) hlt) h⟩
  have hm:=(cU (l.getD i zSh).1).1;obtain⟨b,hb,hi⟩:=bL (l.getD i zSh).2.1;rw[cB.l1_eq];simp(disch:=omega)only[ss,hm];by_cases c1:inT (l.getD i zSh).1
  ·rw[dp c1,gX1,cond_false];simp(disch:=omega)only[ss,hb]
   cases b with
   | false=>
    rw[dY1,cond_true];exact stop fun q=>by have:=hi.2 q.2.1;cases this
   | true=>
    rw[gX1,cond_false];by_cases h0:i=0
    ·simp(disch:=omega)only[ss];exact step ⟨c1,hi.1 rfl,fun q=>by omega⟩
    ·have hp:=hin (i-1) (by omega);have hw:w6 ((l.getD (i-1) zSh).1+200000)=(l.getD (i-1) zSh).1+200000:=wr (by omega) (by omega);simp(disch:=omega)only[ss,hw];by_cases c:(l.getD i zSh).1<(l.getD (i-1) zSh).1+200000
     ·rw[dp c];exact stop fun q=>by have:=q.2.2 (by omega);omega
     ·rw[dn c];exact step ⟨c1,hi.1 rfl,fun _=>by omega⟩
  ·rw[dn c1,dY1,cond_true];exact stop fun q=>c1 q.1
theorem qA1 (l:List Sp) (hl:l.length≤1000000):yC (cB.f l) (mU l):=by
 have:=hK1 l hl _ 0 rfl (eX1 _) fun j hj=>by omega
 rw[sX1]at this;rw[cB.f_eq];exact this.iff ⟨fun q=>⟨fun j hj=>q.1 j (eX1 _) hj,q.2⟩,fun q=>⟨fun j _ hj=>q.1 j hj,q.2⟩⟩
def okY (x:Yl):Prop:=1≤x.1∧x.1≤12∧1≤x.2.1∧x.2.1≤5∧0≤x.2.2.1∧x.2.2.1≤6∧0≤x.2.2.2.1∧x.2.2.2.1<86400∧offP x.2.2.2.2.1
def hD1 (l:List Yl):Prop:=(∀j,j<l.length→okY (l.getD j zYl))∧2≤(l.getD 1 zYl).1-(l.getD 0 zYl).1∧(l.getD 1 zYl).1-(l.getD 0 zYl).1≤10
theorem wM1 (l:List Yl) (h2:l.length=2):∀(k i:Nat),l.length-i=k→i≤l.length→(∀j,j<i→okY (l.getD j zYl)) →
  yC (xA.l1 l l (l.length:Int) (i:Int)) ((∀j,i≤j→j<l.length→okY (l.getD j zYl))∧2≤(l.getD 1 zYl).1-(l.getD 0 zYl).1∧(l.getD 1 zYl).1-(l.getD 0 zYl).1≤10):=by
 intro k
 induction k with
 | zero=>
  intro i hk hil hin;have a0:=hin 0 (by omega);have a1:=hin 1 (by omega);unfold okY at a0 a1;have hw:w6 ((l.getD 1 zYl).1-(l.getD 0 zYl).1)=(l.getD 1 zYl).1-(l.getD 0 zYl).1:=wr (by omega) (by omega);rw[xA.l1_eq];by_cases c:(l.getD 1 zYl).1-(l.getD 0 zYl).1≥2
  ·simp(disch:=omega)only[ss,hw];refine⟨_,rfl,?_⟩;rw[decide_eq_true_eq];exact⟨fun h=>⟨fun j h1 h2=>by omega,by omega,h⟩,fun h=>h.2.2⟩
  ·simp(disch:=omega)only[ss,hw];exact⟨false,rfl,(fun h=>by cases h),fun h=>absurd h.2.1 c⟩
 | succ k ih=>
  intro i hk hil hin;have hlt:i<l.length:=by omega
  have step:okY (l.getD i zYl)→yC (xA.l2 l l (l.length:Int) (i:Int) false) ((∀j,i≤j→j<l.length→okY (l.getD j zYl))∧2≤(l.getD 1 zYl).1-(l.getD 0 zYl).1∧(l.getD 1 zYl).1-(l.getD 0 zYl).1≤10):=fun h=>by
   rw[xA.l2_eq];simp(disch:=omega)only[ss];refine(ih (i+1) (by omega) (by omega) fun j hj=>?_).iff ⟨fun q=>⟨fun j h1 h2=>?_,q.2⟩,fun q=>⟨fun j h1 h2=>q.1 j (by omega) h2,q.2⟩⟩
   ·by_cases e:j=i
    ·subst e;exact h
    ·exact hin j (by omega)
   ·by_cases e:j=i
    ·subst e;exact h
    ·exact q.1 j (by omega) h2
  have stop:¬okY (l.getD i zYl)→yC (xA.l2 l l (l.length:Int) (i:Int) true) ((∀j,i≤j→j<l.length→okY (l.getD j zYl))∧2≤(l.getD 1 zYl).1-(l.getD 0 zYl).1∧(l.getD 1 zYl).1-(l.getD 0 zYl).1≤10):=fun h=>by rw[xA.l2_eq,cond_true];exact⟨false,rfl,by simp;intro q;exact absurd (q i (iX1 _) hlt) h⟩
  unfold okY at step stop;obtain⟨b,hb,hi⟩:=bL (l.getD i zYl).2.2.2.2.1;rw[xA.l1_eq];simp(disch:=omega)only[dp,cond_true,xY1];by_cases c1:(l.getD i zYl).1<1
  ·rw[dp c1];exact stop fun q=>by omega
  rw[dn c1,cond_false];by_cases c2:(l.getD i zYl).1>12
  ·rw[dp c2];exact stop fun q=>by omega
  rw[dn c2,cond_false];by_cases c3:(l.getD i zYl).2.1<1
  ·rw[dp c3];exact stop fun q=>by omega
  rw[dn c3,cond_false];by_cases c4:(l.getD i zYl).2.1>5
  ·rw[dp c4];exact stop fun q=>by omega
  rw[dn c4,cond_false];by_cases c5:(l.getD i zYl).2.2.1<0
  ·rw[dp c5];exact stop fun q=>by omega
  rw[dn c5,cond_false];by_cases c6:(l.getD i zYl).2.2.1>6
  ·rw[dp c6];exact stop fun q=>by omega
  rw[dn c6,cond_false];by_cases c7:(l.getD i zYl).2.2.2.1<0
  ·rw[dp c7];exact stop fun q=>by omega
  rw[dn c7,cond_false];by_cases c8:(l.getD i zYl).2.2.2.1≥86400
  ·rw[dp c8];exact stop fun q=>by omega
  rw[dn c8,cond_false,hb];simp only[wW1]
  cases b with
  | false=>exact stop fun q=>by have:=hi.2 q.2.2.2.2.2.2.2.2;cases this
  | true=>exact step ⟨by omega,by omega,by omega,by omega,by omega,by omega,by omega,by omega,hi.1 rfl⟩
theorem yF1 (l:List Yl) (h2:l.length=2):yC (xA.f l) (hD1 l):=by
 have:=wM1 l h2 _ 0 rfl (eX1 _) fun j hj=>by omega
 rw[sX1]at this;rw[xA.f_eq];exact this.iff ⟨fun q=>⟨fun j hj=>q.1 j (eX1 _) hj,q.2⟩,fun q=>⟨fun j _ hj=>q.1 j hj,q.2⟩⟩
def pG (z:Zn):Prop:=offP z.1∧mU z.2.1 ∧
 ((z.2.2.1=[]∧z.2.2.2.1=0)∨(z.2.2.1.length=2∧hD1 z.2.2.1∧1≤z.2.2.2.1∧z.2.2.2.1≤9999∧(z.2.1=[]∨(z.2.1.getD (z.2.1.length-1) zSh).1+200000≤fst_ z.2.2.2.1*86400)))
theorem vK1 (y m d:Int):zB.f y m d 0 0 0=some (if vJ y m d=true then((fst_ y+d-1+cum y m)*86400,0,())else(0,1,())):=by
 rw[zB.f_eq,tX];by_cases c:vJ y m d=true
 ·rw[if_pos c,if_pos c];have hv:=vB.1 c;have h1:=uP y (by omega) (by omega);have h2:=oJ y m;have h3:=wH y m;simp(disch:=omega)only[ss,zB.l1_eq];simp
 ·rw[if_neg c,if_neg c];simp(disch:=omega)only[ss,zB.l1_eq]
theorem xV (y:Int):zB.f y 1 1 0 0 0=some (if 1≤y∧y≤9999 then(fst_ y*86400,0,())else(0,1,())):=by
 rw[vK1,vZ];have hm:mlen y 1=31:=by unfold mlen;simp
 by_cases c:1≤y∧y≤9999
 ·rw[if_pos c,if_pos (vB.2 ⟨c.1,c.2,by omega,by omega⟩)]
  congr 3
  omega
 ·rw[if_neg c,if_neg fun q=>c ⟨(vB.1 q).1,(vB.1 q).2.1⟩]
theorem cG1 (z:Zn) (h1:z.2.1.length≤1000000):yC (xB.f z) (pG z):=by
 obtain⟨base,sh,ys,tE,⟨⟩⟩:=z;dsimp only at h1
 have stop:¬pG (base,sh,ys,tE,())→yC (xB.l1 true (base,sh,ys,tE,())) (pG (base,sh,ys,tE,())):=fun q=>by rw[xB.l1_eq,cond_true];exact⟨false,rfl,(fun h=>by cases h),fun h=>absurd h q⟩
 unfold pG at stop ⊢;dsimp only at stop ⊢;obtain⟨b,hb,hi⟩:=bL base;obtain⟨d,hd,he⟩:=qA1 sh h1;rw[xB.f_eq];dsimp only;rw[hb];simp only[wW1]
 cases b with
 | false=>exact stop fun q=>by have:=hi.2 q.1;cases this
 | true=>
 rw[gX1,cond_false,hd];simp only[wW1]
 cases d with
 | false=>exact stop fun q=>by have:=he.2 q.2.1;cases this
 | true=>
 rw[gX1,xB.l1_eq,cond_false];dsimp only;have hbase:=hi.1 rfl;have hsh:=he.1 rfl;by_cases c0:(ys.length:Int)=0
 ·have e:ys=[]:=lX1 (by omega);subst e;rw[dp c0,cond_true];refine⟨_,rfl,?_⟩;rw[decide_eq_true_eq];exact⟨fun h=>⟨hbase,hsh,.inl ⟨rfl,h⟩⟩,fun h=>h.2.2.elim (fun q=>q.2) fun q=>by simp at q⟩
 ·rw[dn c0,cond_false];have hne:ys≠[]:=fun e=>c0 (by rw[e];rfl)
  by_cases c2:(ys.length:Int)=2
  ·rw[dp c2,cond_true,xV];obtain⟨e,he',hi'⟩:=yF1 ys (by omega)
   have st2:∀x,¬(offP base∧mU sh∧((ys=[]∧tE=0)∨(ys.length=2∧hD1 ys∧1≤tE∧tE≤9999∧(sh=[]∨(sh.getD (sh.length-1) zSh).1+200000≤fst_ tE*86400))))→yC (xB.l2 x true (base,sh,ys,tE,())) (offP base∧mU sh∧((ys=[]∧tE=0)∨(ys.length=2∧hD1 ys∧1≤tE∧tE≤9999∧(sh=[]∨(sh.getD (sh.length-1) zSh).1+200000≤fst_ tE*86400)))):=fun x q=>by rw[xB.l2_eq,cond_true];exact⟨false,rfl,(fun h=>by cases h),fun h=>absurd h q⟩
   by_cases c3:1≤tE∧tE≤9999
   ·rw[if_pos c3];simp only[wW1,decide_true,gX1,cond_false];rw[he'];simp only[wW1]
    cases e with
    | false=>exact st2 _ fun q=>q.2.2.elim (fun q=>hne q.1) fun q=>by have:=hi'.2 q.2.1;cases this
    | true=>
     rw[gX1,xB.l2_eq,cond_false];dsimp only;by_cases c4:(sh.length:Int)=0
     ·have e:sh=[]:=lX1 (by omega);rw[dp c4,cond_true];exact⟨true,rfl,fun _=>⟨hbase,hsh,.inr ⟨by omega,hi'.1 rfl,c3.1,c3.2,.inl e⟩⟩,fun _=>rfl⟩
     ·have hb2:=hsh.1 (sh.length-1) (by omega);have hbt:=hb2.1;have hw:w6 ((sh.length:Int)-1)=((sh.length-1:Nat):Int):=by rw[wr (by omega) (by omega)];omega
      have hw2:w6 ((sh.getD (sh.length-1) zSh).1+200000)=(sh.getD (sh.length-1) zSh).1+200000:=wr (by omega) (by omega);rw[dn c4,cond_false,hw];simp(disch:=omega)only[ss,hw2];refine⟨_,rfl,?_⟩;rw[decide_eq_true_eq];constructor
      ·exact fun h=>⟨hbase,hsh,.inr ⟨by omega,hi'.1 rfl,c3.1,c3.2,.inr h⟩⟩
      ·exact fun h=>h.2.2.elim (fun q=>absurd q.1 hne) fun q=>q.2.2.2.2.elim (fun e=>absurd (by rw[e];rfl) c4) id
   ·rw[if_neg c3];exact st2 _ fun q=>q.2.2.elim (fun q=>hne q.1) fun q=>c3 ⟨q.2.2.1,q.2.2.2.1⟩
  ·rw[dn c2,cond_false];exact⟨false,rfl,(fun h=>by cases h),fun h=>h.2.2.elim (fun q=>absurd q.1 hne) fun q=>absurd (by have:=q.1;omega) c2⟩
theorem hJ1 {α:Type} (M:Nat) (l a b:List α) (h:l.length≤M):(l++a.take (M-l.length+1)++b).take (M+1)=(l++(a++b)).take (M+1):=by
 by_cases c:a.length≤M-l.length+1
 ·rw[qX1 c,tX1]
 ·have e1:(l++a.take (M-l.length+1)).length=M+1:=by rw[zW1,mX1];omega
  rw[yY1 (by omega),qX1 (by omega),List.take_append,yY1 (by omega),qX1 (show l.length≤M+1 by omega)]
  congr 2
  omega
theorem pY {α:Type} (M:Nat) (l a:List α) (h:l.length=M+1):(l++a).take (M+1)=l:=by rw[yY1 (by omega),qX1 (by omega)]
section
variable (lo hi d : Int)
def sel (a b:Int) (ss:List Int):List Int:=(ss.filter fun s=>decide (lo≤3600*a+60*b+s)&&decide (3600*a+60*b+s<hi)).map fun s=>d*86400+(3600*a+60*b+s)
theorem qW (a b:Int) (ss:List Int) (h:∀s,s∈ss → ¬(lo≤3600*a+60*b+s∧3600*a+60*b+s<hi)):sel lo hi d a b ss=[]:=by unfold sel;rw[List.map_eq_nil_iff,List.filter_eq_nil_iff];intro s hs;rw[xW1,decide_eq_true_eq,decide_eq_true_eq];exact h s hs
def selH (m c:List Int) (a:Int):List Int:=m.flatMap fun b=>sel lo hi d a b c
theorem yP1 (h m c:List Int):dayL h m c lo hi d=h.flatMap (selH lo hi d m c):=by unfold dayL tod selH sel;simp only[List.filter_flatMap,List.map_flatMap,List.filter_map,List.map_map];rfl
variable (P : PlT) (M : Nat) (hM : M ≤ 200000) (hlo : 0 ≤ lo ∧ lo ≤ 100000) (hhi : 0 ≤ hi ∧ hi ≤ 100000) (hd : -1000000 ≤ d ∧ d ≤ 4000000)
 (oh:okT P.2.2.2.1 23) (om:okT P.2.2.2.2.1 59) (oc:okT P.2.2.2.2.2.1 59)
include hM hlo hhi hd oh om oc
theorem yT1 (i j:Nat) (a b:Int) (ha:0≤a∧a≤23) (hb:0≤b∧b≤59) (hj:j<P.2.2.2.2.1.length) (rest:List Int)
  (C:∀l:List Int,l.length≤M→bA.l3 d lo hi M a P.2.2.2.1 (P.2.2.2.1.length:Int) i P.2.2.2.2.1 (P.2.2.2.2.1.length:Int) ((j+1:Nat):Int) P l=some ((l++rest).take (M+1),(),())):
  ∀(n k:Nat),P.2.2.2.2.2.1.length-k=n→k≤P.2.2.2.2.2.1.length → ∀l:List Int,l.length≤M →
   bA.l5 d lo hi M a (3600*a+60*b) P.2.2.2.1 (P.2.2.2.1.length:Int) i P.2.2.2.2.1 (P.2.2.2.2.1.length:Int) j P.2.2.2.2.2.1 (P.2.2.2.2.2.1.length:Int) k P l=some ((l++(sel lo hi d a b (P.2.2.2.2.2.1.drop k)++rest)).take (M+1),(),()):=by
 have hlim:pC=17179869184:=rfl;have lh:=oh.2.2;have lm:=om.2.2;have lc:=oc.2.2;intro n
 induction n with
 | zero=>
  intro k hk hkl l hl;have e:k=P.2.2.2.2.2.1.length:=by omega
  subst e;have:=C l hl;rw[mY1,nY1]at this;rw[bA.l5_eq];simp(disch:=omega)only[ss];rw[this,jY1];rfl
 | succ n ih=>
  intro k hk hkl l hl;have hlt:k<P.2.2.2.2.2.1.length:=by omega
  have hs:=oc.2.1 _ (aH hlt);have ih':=ih (k+1) (by omega) (by omega);rw[mY1,nY1]at ih';rw[bA.l5_eq,xY1,pB 0 hlt];generalize P.2.2.2.2.2.1.getD k 0=s at hs ⊢;by_cases c1:3600*a+60*b+s<lo
  ·have e:sel lo hi d a b (s::P.2.2.2.2.2.1.drop (k+1))=sel lo hi d a b (P.2.2.2.2.2.1.drop (k+1)):=by unfold sel;rw[List.filter_cons_of_neg (by rw[dn (show ¬lo≤3600*a+60*b+s by omega)];simp)]
   rw[e];simp(disch:=omega)only[ss,bA.l6_eq];exact ih' l hl
  ·by_cases c2:3600*a+60*b+s≥hi
   ·have e:sel lo hi d a b (s::P.2.2.2.2.2.1.drop (k+1))=sel lo hi d a b (P.2.2.2.2.2.1.drop (k+1)):=by unfold sel;rw[List.filter_cons_of_neg (by rw[dn (show ¬3600*a+60*b+s<hi by omega)];simp)]
    rw[e];simp(disch:=omega)only[ss,bA.l6_eq];exact ih' l hl
   ·have e:sel lo hi d a b (s::P.2.2.2.2.2.1.drop (k+1))=(d*86400+(3600*a+60*b+s))::sel lo hi d a b (P.2.2.2.2.2.1.drop (k+1)):=by unfold sel;rw[List.filter_cons_of_pos (by rw[dp (show lo≤3600*a+60*b+s by omega),dp (show 3600*a+60*b+s<hi by omega)];rfl)];rfl
    rw[e];have ea:d*86400+(3600*a+60*b)+s=d*86400+(3600*a+60*b+s):=by omega
    have hlen:(l++[d*86400+(3600*a+60*b+s)]).length=l.length+1:=tH _ _;have eapp:∀x:List Int,l++((d*86400+(3600*a+60*b+s))::x++rest)=l++[d*86400+(3600*a+60*b+s)]++(x++rest):=fun x=>by simp
    rw[eapp];by_cases c3:l.length=M
    ·simp(disch:=omega)only[ss,bA.l6_eq,qI.f_eq,ea,hlen,hY1,hlim];rw[pY _ _ _ (by rw[hlen,c3])]
    ·simp(disch:=omega)only[ss,bA.l6_eq,qI.f_eq,ea,hlen,hY1,hlim];exact ih' _ (by rw[hlen];omega)
theorem xT1 (i:Nat) (a:Int) (ha:0≤a∧a≤23) (hi':i<P.2.2.2.1.length) (rest:List Int)
  (C:∀l:List Int,l.length≤M→bA.l1 d lo hi M P.2.2.2.1 (P.2.2.2.1.length:Int) ((i+1:Nat):Int) P l=some ((l++rest).take (M+1),(),())):
  ∀(n j:Nat),P.2.2.2.2.1.length-j=n→j≤P.2.2.2.2.1.length → ∀l:List Int,l.length≤M →
   bA.l3 d lo hi M a P.2.2.2.1 (P.2.2.2.1.length:Int) i P.2.2.2.2.1 (P.2.2.2.2.1.length:Int) j P l=some ((l++((P.2.2.2.2.1.drop j).flatMap (fun b=>sel lo hi d a b P.2.2.2.2.2.1)++rest)).take (M+1),(),()):=by
 have lh:=oh.2.2;have lm:=om.2.2;have lc:=oc.2.2;intro n
 induction n with
 | zero=>
  intro j hj hjl l hl;have e:j=P.2.2.2.2.1.length:=by omega
  subst e;have:=C l hl;rw[mY1,nY1]at this;rw[bA.l3_eq];simp(disch:=omega)only[ss];rw[this,jY1];rfl
 | succ n ih=>
  intro j hj hjl l hl;have hlt:j<P.2.2.2.2.1.length:=by omega
  have hb:=om.2.1 _ (aH hlt);have ih':=ih (j+1) (by omega) (by omega);have ih2:=ih';rw[mY1,nY1]at ih2;rw[bA.l3_eq,xY1,pB 0 hlt,rZ1];generalize P.2.2.2.2.1.getD j 0=b at hb ⊢;by_cases c1:3600*a+60*b+59<lo
  ·rw[qW lo hi d a b _ (fun s hs=>by have:=oc.2.1 s hs;omega)];simp(disch:=omega)only[ss,bA.l4_eq];exact ih2 l hl
  ·by_cases c2:3600*a+60*b≥hi
   ·rw[qW lo hi d a b _ (fun s hs=>by have:=oc.2.1 s hs;omega)];simp(disch:=omega)only[ss,bA.l4_eq];exact ih2 l hl
   ·have h5:=yT1 lo hi d P M hM hlo hhi hd oh om oc i j a b ha hb hlt _ ih' P.2.2.2.2.2.1.length 0 (by omega) (eX1 _) l hl;rw[sX1,cY1]at h5;simp(disch:=omega)only[ss,bA.l4_eq];rw[h5,tX1]
theorem zS1 :∀(n i:Nat),P.2.2.2.1.length-i=n→i≤P.2.2.2.1.length → ∀l:List Int,l.length≤M →
   bA.l1 d lo hi M P.2.2.2.1 (P.2.2.2.1.length:Int) i P l=some ((l++(P.2.2.2.1.drop i).flatMap (selH lo hi d P.2.2.2.2.1 P.2.2.2.2.2.1)).take (M+1),(),()):=by
 have lh:=oh.2.2;have lm:=om.2.2;have lc:=oc.2.2;intro n
 induction n with
 | zero=>
  intro i hin hil l hl;have e:i=P.2.2.2.1.length:=by omega
  subst e;rw[bA.l1_eq];simp(disch:=omega)only[ss];rw[jY1,List.flatMap_nil,rX1,qX1 (by omega)]
 | succ n ih=>
  intro i hin hil l hl;have hlt:i<P.2.2.2.1.length:=by omega
  have ha:=oh.2.1 _ (aH hlt);have ih':=ih (i+1) (by omega) (by omega);have ih2:=ih';rw[mY1,nY1]at ih2;rw[bA.l1_eq,xY1,pB 0 hlt,rZ1];generalize P.2.2.2.1.getD i 0=a at ha ⊢
  have hnil:(∀x:Int,0≤x→x≤3599 → ¬(lo≤3600*a+x∧3600*a+x<hi))→selH lo hi d P.2.2.2.2.1 P.2.2.2.2.2.1 a=[]:=fun q=>by
   unfold selH;rw[List.flatMap_eq_nil_iff];intro b hb;refine qW lo hi d a b _ fun s hs=>?_
   have:=oc.2.1 s hs;have:=om.2.1 b hb;have:=q (60*b+s) (by omega) (by omega);omega
  by_cases c1:3600*a+3599<lo
  ·rw[hnil (fun x h1 h2=>by omega)];simp(disch:=omega)only[ss,bA.l2_eq];exact ih2 l hl
  ·by_cases c2:3600*a≥hi
   ·rw[hnil (fun x h1 h2=>by omega)];simp(disch:=omega)only[ss,bA.l2_eq];exact ih2 l hl
   ·have h3:=xT1 lo hi d P M hM hlo hhi hd oh om oc i a ha hlt _ ih' P.2.2.2.2.1.length 0 (by omega) (eX1 _) l hl;rw[sX1,cY1]at h3;simp(disch:=omega)only[ss,bA.l2_eq];exact h3
theorem kH1 :bA.f P d lo hi M ()=some ((dayL P.2.2.2.1 P.2.2.2.2.1 P.2.2.2.2.2.1 lo hi d).take (M+1),(),()):=by have h:=zS1 lo hi d P M hM hlo hhi hd oh om oc P.2.2.2.1.length 0 (by omega) (eX1 _) [] (eX1 _);rw[sX1,cY1,bY1]at h;rw[bA.f_eq,yP1];exact h
end
theorem qT1 (P:PlT) (r:Rl) (s:Int) (F:Int→Bool) (pr:Int→Int) (h m c:List Int) (hP:PlanOK P r s F pr h m c) (lo hi B:Int) (M:Nat) (hM:M≤200000) (hlo:0≤lo∧lo≤100000) (hhi:0≤hi∧hi≤100000) (hB:B≤2932896):
  ∀(n:Nat) (d:Int),(B+1-d).toNat=n → -719162≤d → ∀l:List Int,l.length≤M+1→bB.l1 M lo hi B d P l=some ((l++setF F h m c lo hi n d).take (M+1),()):=by
 have hlim:pC=17179869184:=rfl;intro n
 induction n with
 | zero=>
  intro d hn hd l hl;rw[bB.l1_eq,dn (show ¬d≤B by omega),cond_false,bB.l2_eq,cond_false];show _=some ((l++[]).take (M+1),());rw[rX1,qX1 hl]
 | succ n ih=>
  intro d hn hd l hl;have hdB:d≤B:=by omega
  rw[bB.l1_eq,dp hdB,cond_true,bB.l2_eq];by_cases c1:l.length=M+1
  ·rw[dn (show ¬(l.length:Int)≤M by omega),cond_false,pY _ _ _ c1]
  ·have hl':l.length≤M:=by omega
   rw[dp (show(l.length:Int)≤M by omega),cond_true,iB.f_eq,hP.fits d];have hw:w6 (d+1)=d+1:=wr (by omega) (by omega);have hwl:w6 ((M:Int)-(l.length:Int))=((M-l.length:Nat):Int):=by rw[wr (by omega) (by omega)];omega
   simp only[wW1,hw,hwl];unfold setF
   cases hF:F d with
   | false=>
    rw[cond_false,if_neg (by simp)];exact ih (d+1) (by omega) (by omega) l hl
   | true=>
    have hday:=kH1 lo hi d P (M-l.length) (by omega) hlo hhi ⟨by omega,by omega⟩ (by rw[hP.eh];exact hP.oh) (by rw[hP.em];exact hP.om) (by rw[hP.ec];exact hP.oc);rw[hP.eh,hP.em,hP.ec]at hday;rw[cond_true,if_pos rfl,hday];have hlen:(l++(dayL h m c lo hi d).take (M-l.length+1)).length≤M+1:=by rw[zW1,mX1];omega
    rw[zW1]at hlen;simp only[wW1];rw[dp (by omega),cond_true,ih (d+1) (by omega) (by omega) _ (by rw[zW1];exact hlen),hJ1 _ _ _ _ hl']
theorem half {a b:Nat} (h:a+b<4611686018427387904):w6 (shrI .u64 (IntKind.u64.wrap (w6 ((a:Int)+(b:Int)))) 1)=(((a+b)/2:Nat):Int):=by
 rw[wr (x:=(a:Int)+(b:Int)) (by omega) (by omega),Go.IntWalk.u64_in ((a:Int)+(b:Int)) (by omega)];have e:shrI .u64 ((a:Int)+(b:Int)) 1=(((a+b)/2:Nat):Int):=by show Int.fdiv ((a:Int)+(b:Int)) (2 ^ (min (1:Int).toNat 64))=_;rw[show min (1:Int).toNat 64=1 from rfl,show(2:Int) ^ 1=2 from rfl,Int.fdiv_eq_ediv_of_nonneg _ (by decide)];omega
 rw[e,wr (by omega) (by omega)]
theorem bO1 (a b:Int):kG.f a b=some (decide (a<b),()):=by rw[kG.f_eq];simp(disch:=omega)only[ss,xF.f_eq,ne_eq,not_true_eq_false]
theorem uQ1 (a:Int):uD.f a=some (false,()):=by rw[uD.f_eq];simp(disch:=omega)only[ss,ne_eq,not_true_eq_false]
theorem nW1 {l:List Int} (hl:l.length≤1000000) (hr:Rise l) (t:Int):∀(k a b:Nat),b-a≤k→a≤b→b≤l.length→(∀j,j<a→l.getD j 0<t)→(∀j,b≤j→j<l.length→t≤l.getD j 0) →
  ∃i:Nat,oA.l1 l t (l.length:Int) a b=some ((i:Int),decide (i<l.length∧l.getD i 0=t),())∧i≤l.length∧(∀j,j<i→l.getD j 0<t)∧(∀j,i≤j→j<l.length→t≤l.getD j 0):=by
 have done:∀a:Nat,a≤l.length→(∀j,j<a→l.getD j 0<t)→(∀j,a≤j→j<l.length→t≤l.getD j 0) → ∃i:Nat,oA.l1 l t (l.length:Int) a a=some ((i:Int),decide (i<l.length∧l.getD i 0=t),())∧i≤l.length∧(∀j,j<i→l.getD j 0<t)∧(∀j,i≤j→j<l.length→t≤l.getD j 0):=by
  intro a ha h1 h3;rw[oA.l1_eq];refine⟨a,?_,ha,h1,h3⟩;by_cases hc:a<l.length
  ·by_cases he:l.getD a 0=t
   ·rw[dp (show a<l.length∧l.getD a 0=t from⟨hc,he⟩)];simp(disch:=omega)only[ss]
   ·rw[dn (show ¬(a<l.length∧l.getD a 0=t)from fun q=>he q.2)];simp(disch:=omega)only[ss,uQ1]
  ·rw[dn (show ¬(a<l.length∧l.getD a 0=t)from fun q=>hc q.1)];simp(disch:=omega)only[ss]
 intro k
 induction k with
 | zero=>
  intro a b hk hab hb h1 h3;have e:a=b:=by omega
  subst e;exact done a hb h1 h3
 | succ k ih=>
  intro a b hk hab hb h1 h3;by_cases he:a=b
  ·subst he;exact done a hb h1 h3
  ·rw[oA.l1_eq,half (by omega)];have hm1:a≤(a+b)/2:=by omega
   have hm2:(a+b)/2<b:=by omega
   generalize (a+b)/2=m at hm1 hm2;simp(disch:=omega)only[ss,bO1];by_cases hm:l.getD m 0<t
   ·simp(disch:=omega)only[ss];refine ih (m+1) b (by omega) (by omega) hb (fun j hj=>?_) h3;by_cases hjm:j=m
    ·subst hjm;exact hm
    ·have:=rK hr (show j<m by omega) (by omega);omega
   ·simp(disch:=omega)only[ss];refine ih a m (by omega) hm1 (by omega) h1 fun j hj1 hj2=>?_
    by_cases hjm:j=m
    ·subst hjm;omega
    ·have:=rK hr (show m<j by omega) hj2;omega
theorem eP1 {l:List Int} (hl:l.length≤1000000) (hr:Rise l) (t:Int):∃i:Nat,oA.f l t=some ((i:Int),decide (i<l.length∧l.getD i 0=t),())∧i≤l.length∧(t∈l→i<l.length∧l.getD i 0=t):=by
 obtain⟨i,h1,h2,h3,h4⟩:=nW1 hl hr t l.length 0 l.length (by omega) (eX1 _) (iX1 _) (fun j hj=>absurd hj (by omega)) (fun j h1 h2=>absurd h1 (by omega));rw[oA.f_eq];refine⟨i,h1,h2,fun hm=>?_⟩;obtain⟨j,hj,e⟩:=rW hm;have hij:i≤j:=by
  refine Classical.byContradiction fun c=>?_
  have:=h3 j (by omega);omega
 by_cases c:i=j
 ·subst c;exact⟨hj,e⟩
 ·have:=rK hr (show i<j by omega) hj;have:=h4 i (iX1 _) (by omega);omega
section
variable {P : PlT} {r : Rl} {s : Int} {F : Int → Bool} {pr : Int → Int} {h m c : List Int} (hP : PlanOK P r s F pr h m c)
abbrev inP (iv s:Int) (pr:Int→Int) (t:Int):Prop:=Int.tmod (pr t-pr s) iv=0
def rawP (iv s:Int) (F:Int→Bool) (pr:Int→Int) (h m c:List Int) (t:Int):Prop:=inT t∧t%86400∈tod h m c∧inP iv s pr t∧F (t/86400)=true
include hP
theorem sD1 (t:Int) (ht:inT t):tC.f P t=some (decide (inP r.2.1 s pr t),()):=by have hv:=hP.iv;rw[tC.f_eq,hP.period t ht,hP.er];simp(disch:=omega)only[ss]
theorem hS1 (t:Int) (ht:inT t):∃G:List Int,Rise G∧(∀x,x∈G↔rawP r.2.1 s F pr h m c x∧pr x=pr t) ∧
  ∀M:Nat,M≤200000→bB.f P t M=some (G.take (M+1),()):=by
 have hd:=rJ ht;have hD:=(wF t (by unfold inT at ht;omega) (by unfold inT at ht;omega)).1;have hI:=sD1 hP t ht;obtain⟨A,B,g1,g2,g3,g4⟩:=hP.days t ht;by_cases c1:inP r.2.1 s pr t
 ·rw[dp c1]at hI;have hspan:∃lo hi,lE.f P t=some (lo,hi,())∧(0≤lo∧lo≤100000)∧(0≤hi∧hi≤100000) ∧
    ∀x,inT x→(pr x=pr t↔(A≤x/86400∧x/86400≤B)∧lo≤x%86400∧x%86400<hi):=by
   have hs1:0≤t%86400∧t%86400≤86399:=by omega
   rw[lE.f_eq,hD,hP.er];by_cases f5:r.1=5
   ·have e:Int.tmod (t%86400) 3600=t%86400%3600:=tmn hs1.1 _;refine⟨t%86400-t%86400%3600,t%86400-t%86400%3600+3600,by simp(disch:=omega)only[ss,e],by omega,by omega,fun x hx=>?_⟩;have a:=g4 (by omega);rw[hP.p5 f5 t ht,hP.p5 f5 x hx];constructor <;> intro q <;> omega
   ·by_cases f6:r.1=6
    ·have e:Int.tmod (t%86400) 60=t%86400%60:=tmn hs1.1 _;refine⟨t%86400-t%86400%60,t%86400-t%86400%60+60,by simp(disch:=omega)only[ss,e],by omega,by omega,fun x hx=>?_⟩;have a:=g4 (by omega);rw[hP.p6 f6 t ht,hP.p6 f6 x hx];constructor <;> intro q <;> omega
    ·by_cases f7:r.1=7
     ·refine⟨t%86400,t%86400+1,by simp(disch:=omega)only[ss],by omega,by omega,fun x hx=>?_⟩;have a:=g4 (by omega);rw[hP.p7 f7 t ht,hP.p7 f7 x hx];constructor <;> intro q <;> omega
     ·refine⟨0,86400,by simp(disch:=omega)only[ss],by omega,by omega,fun x hx=>?_⟩;rw[g3 (by have:=hP.fr;omega) x hx];constructor <;> intro q <;> omega
  obtain⟨lo,hi,s1,s2,s3,s4⟩:=hspan;refine⟨setF F h m c lo hi (B+1-A).toNat A,rX hP.oh.1 hP.om.1 hP.oc.1 hP.oh.2.1 hP.om.2.1 hP.oc.2.1 lo hi _ _,fun x=>?_,fun M hM=>?_⟩
  ·rw[kV hP.oh.2.1 hP.om.2.1 hP.oc.2.1];constructor
   ·rintro⟨q1,q2,q3,q4,q5,q6⟩;have hx:inT x:=by unfold inT;omega
    have hpr:=(s4 x hx).2 ⟨⟨by omega,by omega⟩,q5,q6⟩;refine⟨⟨hx,q4,?_,q3⟩,hpr⟩;unfold inP at c1 ⊢;rw[hpr];exact c1
   ·rintro⟨⟨hx,q4,_,q3⟩,hpr⟩;have:=(s4 x hx).1 hpr;exact⟨by omega,by omega,q3,q4,this.2⟩
  ·rw[bB.f_eq,hI];simp only[wW1,gX1,cond_false];rw[s1];simp only[wW1];rw[g1];simp only[wW1];exact qT1 P r s F pr h m c hP lo hi B M hM s2 s3 (by omega) _ A rfl (by omega) [] (eX1 _)
 ·rw[dn c1]at hI;refine⟨[],xE,fun x=>?_,fun M hM=>?_⟩
  ·constructor
   ·intro q;exact absurd q (by simp)
   ·rintro⟨⟨_,_,q,_⟩,e⟩;unfold inP at c1 q;rw[e]at q;exact absurd q c1
  ·rw[bB.f_eq,hI];rfl
omit hP
def jK1 (po:List Int) (l:List Int) (t:Int):Prop:=l.length≤100000 ∧ ∃i:Nat,i<l.length∧l.getD i 0=t∧((i:Int)+1∈po∨(i:Int)-(l.length:Int)∈po)
include hP
theorem rE1 (t:Int) (l:List Int) (hr:Rise l) (hl:l.length≤1000000):jD.f P t l=some (ind (jK1 r.2.2.2.2.2.2.2.2.2.2.2.2.2.2.1 l t),()):=by
 have lp:=hP.lp;obtain⟨i,h1,h2,h3⟩:=eP1 hl hr t;rw[jD.f_eq,h1,hP.er];generalize r.2.2.2.2.2.2.2.2.2.2.2.2.2.2.1=po at lp ⊢;simp only[wW1];by_cases c1:i<l.length∧l.getD i 0=t
 ·rw[dp c1,cond_true];by_cases c2:l.length≤100000
  ·have w1:w6 ((i:Int)+1)=(i:Int)+1:=wr (by omega) (by omega);have w2:w6 ((i:Int)-(l.length:Int))=(i:Int)-(l.length:Int):=wr (by omega) (by omega);rw[dp (show(l.length:Int)≤100000 by omega),cond_true,w1,w2,yD po _ (by omega),yD po _ (by omega)];simp only[wW1];by_cases c3:(i:Int)+1∈po
   ·rw[dp c3,cond_true,oP1 ⟨c2,i,c1.1,c1.2,.inl c3⟩]
   ·rw[dn c3,cond_false];by_cases c4:(i:Int)-(l.length:Int)∈po
    ·rw[dp c4,oP1 ⟨c2,i,c1.1,c1.2,.inr c4⟩]
    ·rw[dn c4,mM1];rintro⟨_,j,j1,j2,j3⟩;have e:i=j:=yL1 hr c1.1 j1 (by rw[c1.2,j2]);subst e;rcases j3 with j3 | j3
     ·exact c3 j3
     ·exact c4 j3
  ·rw[dn (show ¬(l.length:Int)≤100000 by omega),cond_false,mM1 (fun q=>c2 q.1)]
 ·rw[dn c1,cond_false,mM1];rintro⟨_,j,j1,j2,_⟩;refine c1 (h3 ?_);rw[←j2];exact aH j1
end
def belP (iv un:Int) (en:Bool) (po:List Int) (s:Int) (F:Int→Bool) (pr:Int→Int) (h m c:List Int) (t:Int):Prop:=
 rawP iv s F pr h m c t∧s≤t∧(en=true→t≤un) ∧
  (po=[] ∨ ∃G:List Int,Rise G∧(∀x,x∈G↔rawP iv s F pr h m c x∧pr x=pr t)∧jK1 po (G.take 100001) t)
section
variable {P : PlT} {r : Rl} {s : Int} {F : Int → Bool} {pr : Int → Int} {h m c : List Int} (hP : PlanOK P r s F pr h m c) (hMk : vC.f r s = some (P, true, ()))
include hP hMk
end
section
variable {r : Rl} {s : Int} {P : PlT} (hMk : vC.f r s = some (P, false, ()))
include hMk
end
section
variable {f iv ct un wkst : Int} {en : Bool} {mo we yd md : List Int} {dy : List Dy} {ho mi se po : List Int} {P : PlT} {s : Int} {F : Int → Bool} {pr : Int → Int} {h m c : List Int} (hP : PlanOK P (f, iv, ct, un, wkst, en, mo, we, yd, md, dy, ho, mi, se, po, ()) s F pr h m c) (hMk : vC.f (f, iv, ct, un, wkst, en, mo, we, yd, md, dy, ho, mi, se, po, ()) s = some (P, true, ()))
include hP hMk
end
section
variable (W : Int → Prop)
noncomputable def memL (a b:Int):List Int:=((List.range (b-a).toNat).map (fun(j:Nat)=>a+(j:Int))).filter fun x=>ind (W x)
theorem fM {a b x:Int}:x∈memL W a b↔W x∧a≤x∧x<b:=by
 unfold memL;rw[nZ1,pX1,lN];constructor
 ·rintro⟨⟨j,hj,e⟩,h⟩;have:=List.mem_range.1 hj;exact⟨h,by omega,by omega⟩
 ·rintro⟨h,h1,h2⟩;exact⟨⟨(x-a).toNat,List.mem_range.2 (by omega),by omega⟩,h⟩
theorem wL (a b:Int):Rise (memL W a b):=by unfold memL;refine List.Pairwise.sublist List.filter_sublist ?_;rw[List.pairwise_map];exact List.Pairwise.imp (fun {i j} h=>by omega) List.pairwise_lt_range
theorem sJ1 {L:List Int} {a b:Int} (hr:Rise L) (h:∀x,x∈L↔W x∧a≤x∧x<b):L=memL W a b:=
 gJ hr (wL W a b) fun x=>by rw[h,fM]
end
section
variable (W : Int → Prop) (fr en : Int)
noncomputable def memC (a b:Int):List Int:=memL W (if fr≤a then a else fr) (if b≤en then b else en)
theorem jG {a b x:Int}:x∈memC W fr en a b↔W x∧(a≤x∧x<b)∧fr≤x∧x<en:=by
 unfold memC;rw[fM];by_cases c1:fr≤a
 ·rw[if_pos c1];by_cases c2:b≤en
  ·rw[if_pos c2];exact⟨fun h=>⟨h.1,⟨by omega,by omega⟩,by omega,by omega⟩,fun h=>⟨h.1,by omega,by omega⟩⟩
  ·rw[if_neg c2];exact⟨fun h=>⟨h.1,⟨by omega,by omega⟩,by omega,by omega⟩,fun h=>⟨h.1,by omega,by omega⟩⟩
 ·rw[if_neg c1];by_cases c2:b≤en
  ·rw[if_pos c2];exact⟨fun h=>⟨h.1,⟨by omega,by omega⟩,by omega,by omega⟩,fun h=>⟨h.1,by omega,by omega⟩⟩
  ·rw[if_neg c2];exact⟨fun h=>⟨h.1,⟨by omega,by omega⟩,by omega,by omega⟩,fun h=>⟨h.1,by omega,by omega⟩⟩
theorem gI (a b:Int):Rise (memC W fr en a b):=wL W _ _
theorem qP {L:List Int} {a b:Int} (hr:Rise L) (h:∀x,x∈L↔W x∧(a≤x∧x<b)∧fr≤x∧x<en):L=memC W fr en a b:=
 gJ hr (gI W fr en a b) fun x=>by rw[h,jG]
theorem sN {a b c:Int} (h1:a≤b) (h2:b≤c):memC W fr en a b++memC W fr en b c=memC W fr en a c:=by
 refine qP W fr en (eM.2 ⟨gI W fr en a b,gI W fr en b c,fun x hx y hy=>?_⟩) fun x=>?_
 ·have:=(jG W fr en).1 hx;have:=(jG W fr en).1 hy;omega
 ·rw[kX1,jG,jG];constructor
  ·rintro(⟨q,q1,q2⟩ | ⟨q,q1,q2⟩) <;> exact⟨q,⟨by omega,by omega⟩,q2⟩
  ·rintro⟨q,q1,q2⟩;by_cases c1:x<b
   ·exact .inl ⟨q,⟨by omega,c1⟩,q2⟩
   ·exact .inr ⟨q,⟨by omega,by omega⟩,q2⟩
def inW (x:Int):Bool:=decide (fr≤x)&&decide (x<en)
theorem bR {L:List Int} {a b:Int} (hr:Rise L) (h:∀x,x∈L↔W x∧a≤x∧x<b):L.filter (inW fr en)=memC W fr en a b:=by
 refine qP W fr en (List.Pairwise.sublist List.filter_sublist hr) fun x=>?_
 unfold inW;rw[nZ1,h,xW1,decide_eq_true_eq,decide_eq_true_eq];exact⟨fun q=>⟨q.1.1,q.1.2,q.2⟩,fun q=>⟨⟨q.1,q.2.1⟩,q.2.2⟩⟩
theorem bJ {W':Int→Prop} {a b a' b':Int} (h:∀x,fr≤x→x<en→(W x∧a≤x∧x<b↔W' x∧a'≤x∧x<b')):memC W fr en a b=memC W' fr en a' b':=by
 refine qP W' fr en (gI W fr en a b) fun x=>?_
 rw[jG];constructor
 ·rintro⟨q,q1,q2⟩;have:=(h x q2.1 q2.2).1 ⟨q,q1⟩;exact⟨this.1,this.2,q2⟩
 ·rintro⟨q,q1,q2⟩;have:=(h x q2.1 q2.2).2 ⟨q,q1⟩;exact⟨this.1,this.2,q2⟩
theorem fF {a b:Int} (h:∀x,fr≤x→x<en→a≤x→x<b → ¬W x):memC W fr en a b=[]:=
 (qP W fr en xE fun x=>⟨fun q=>absurd q (by simp),fun q=>absurd q.1 (h x q.2.2.1 q.2.2.2 q.2.1.1 q.2.1.2)⟩).symm
theorem bX :memC W fr en fr en=memL W fr en:=by unfold memC;rw[if_pos (aA2 _),if_pos (aA2 _)]
theorem qZ {a:Int} {l:List Int} {lo hi a1 a2:Int} (q:Int→Int) (hr:Rise (a::l)) (hq:∀x y,x≤y→q x≤q y) (ha:∀x,W x→(lo≤x∧x<hi∧q x=a↔a1≤x∧x<a2)):
  memC W fr en a1 a2++memC (fun x=>W x∧q x∈l) fr en lo hi=memC (fun x=>W x∧q x∈a::l) fr en lo hi:=by
 have hr:=lD.1 hr;refine qP _ fr en (eM.2 ⟨gI W fr en _ _,gI _ fr en _ _,fun x hx y hy=>?_⟩) fun x=>?_
 ·have h1:=(jG W fr en).1 hx;have h2:=(jG _ fr en).1 hy;have h3:=(ha x h1.1).2 h1.2.1;have h4:=hr.1 _ h2.1.2;refine Classical.byContradiction fun c=>?_
  have:=hq y x (by omega);omega
 ·rw[kX1,jG,jG,cX1];constructor
  ·rintro(⟨h,h1,h2⟩ | ⟨⟨h,h0⟩,h1,h2⟩)
   ·have:=(ha x h).2 h1;exact⟨⟨h,.inl this.2.2⟩,⟨this.1,this.2.1⟩,h2⟩
   ·exact⟨⟨h,.inr h0⟩,h1,h2⟩
  ·rintro⟨⟨h,h0⟩,h1,h2⟩;rcases h0 with h0 | h0
   ·exact .inl ⟨h,(ha x h).1 ⟨h1.1,h1.2,h0⟩,h2⟩
   ·exact .inr ⟨⟨h,h0⟩,h1,h2⟩
end
noncomputable def aL (po l:List Int):List Int:=if po=[]then l else l.filter fun x=>ind (jK1 po l x)
def picP (iv:Int) (po:List Int) (s:Int) (F:Int→Bool) (pr:Int→Int) (h m c:List Int) (t:Int):Prop:=
 rawP iv s F pr h m c t∧(po=[] ∨ ∃G:List Int,Rise G∧(∀x,x∈G↔rawP iv s F pr h m c x∧pr x=pr t)∧jK1 po (G.take 100001) t)
theorem sK1 {iv un:Int} {en:Bool} {po:List Int} {s:Int} {F:Int→Bool} {pr:Int→Int} {h m c:List Int} {t:Int}:belP iv un en po s F pr h m c t↔picP iv po s F pr h m c t∧s≤t∧(en=true→t≤un):=
 ⟨fun⟨a,b,c,d⟩=>⟨⟨a,d⟩,b,c⟩,fun⟨⟨a,d⟩,b,c⟩=>⟨a,b,c,d⟩⟩
theorem aN {po l:List Int} (h:Rise l):Rise (aL po l):=by
 unfold aL;split
 ·exact h
 ·exact List.Pairwise.sublist List.filter_sublist h
theorem xR {iv:Int} {po:List Int} {s:Int} {F:Int→Bool} {pr:Int→Int} {h m c:List Int} {a b:Int} {G:List Int} (hG:Rise G) (hm:∀x,x∈G↔rawP iv s F pr h m c x∧a≤x∧x<b)
  (hp:∀x y,inT x→inT y→a≤x→x<b→(pr y=pr x↔a≤y∧y<b)) (hlen:po=[]→G.length≤100001) (x:Int):x∈aL po (G.take 100001)↔picP iv po s F pr h m c x∧a≤x∧x<b:=by
 have hsame:∀x,inT x→a≤x→x<b → ∀y,y∈G↔rawP iv s F pr h m c y∧pr y=pr x:=fun x hx h1 h2 y=>by
  rw[hm];constructor
  ·rintro⟨q,q1⟩;exact⟨q,(hp x y hx q.1 h1 h2).2 q1⟩
  ·rintro⟨q,q1⟩;exact⟨q,(hp x y hx q.1 h1 h2).1 q1⟩
 unfold aL picP;by_cases cp:po=[]
 ·rw[if_pos cp,qX1 (hlen cp),hm];exact⟨fun q=>⟨⟨q.1,.inl cp⟩,q.2⟩,fun q=>⟨q.1.1,q.2⟩⟩
 ·rw[if_neg cp,nZ1,lN];constructor
  ·rintro⟨q,q1⟩;have q2:=(hm x).1 (List.mem_of_mem_take q);exact⟨⟨q2.1,.inr ⟨G,hG,hsame x q2.1.1 q2.2.1 q2.2.2,q1⟩⟩,q2.2⟩
  ·rintro⟨⟨q,q1⟩,q2⟩;rcases q1 with q1 | ⟨G',g1,g2,g3⟩
   ·exact absurd q1 cp
   ·have e:G'=G:=gJ g1 hG fun y=>by rw[g2,hsame x q.1 q2.1 q2.2]
    subst e;refine⟨?_,g3⟩;obtain⟨_,i,i1,i2,_⟩:=g3;rw[←i2];exact aH i1
theorem mR1 {P:PlT} {L:List Int} (p:Int→Bool) (hl:L.length≤1000000) (hp:∀x,jD.f P x L=some (p x,())):∀(n i:Nat),L.length-i=n→i≤L.length → ∀acc:List Int,acc.length≤i →
  eB.l1 L L (L.length:Int) i P acc=some (acc++(L.drop i).filter p,()):=by
 have hlim:pC=17179869184:=rfl;intro n
 induction n with
 | zero=>
  intro i hn hi acc ha;have e:i=L.length:=by omega
  subst e;rw[eB.l1_eq];simp(disch:=omega)only[ss];rw[jY1,List.filter_nil,rX1]
 | succ n ih=>
  intro i hn hi acc ha;have hlt:i<L.length:=by omega
  rw[eB.l1_eq,xY1,pB 0 hlt,hp];generalize L.getD i 0=x
  cases hx:p x with
  | true=>
   have ih':=ih (i+1) (by omega) (by omega) (acc++[x]) (by rw[tH];omega);rw[mY1,nY1]at ih';rw[List.filter_cons_of_pos hx];simp(disch:=omega)only[ss,hY1,hlim];rw[ih',tX1];rfl
  | false=>
   have ih':=ih (i+1) (by omega) (by omega) acc (by omega);rw[mY1,nY1]at ih';rw[List.filter_cons_of_neg (by rw[hx];simp)];simp(disch:=omega)only[ss];exact ih'
theorem zW {P:PlT} {r:Rl} {s:Int} {F:Int→Bool} {pr:Int→Int} {h m c:List Int} (hP:PlanOK P r s F pr h m c) {L:List Int} (hr:Rise L) (hl:L.length≤1000000):
  eB.f P L=some (aL r.2.2.2.2.2.2.2.2.2.2.2.2.2.2.1 L,()):=by
 have lp:=hP.lp;have hpk:=fun x=>rE1 hP x L hr hl
 rw[eB.f_eq,hP.er];generalize r.2.2.2.2.2.2.2.2.2.2.2.2.2.2.1=po at lp hpk ⊢;unfold aL;by_cases cp:po=[]
 ·rw[if_pos cp,dp (show(po.length:Int)=0 by rw[cp];rfl),cond_true]
 ·have:=oG.1 cp;have hl1:=mR1 _ hl hpk L.length 0 (by omega) (eX1 _) [] (eX1 _);rw[sX1,cY1,bY1]at hl1;rw[if_neg cp,dn (show ¬(po.length:Int)=0 by omega),cond_false,hl1]
section
variable {σ : Type} (yes : σ → Int → σ × Bool)
def run :σ→List Int→σ×Bool
 | s,[]=>(s,true)
 | s,x::l=>if(yes s x).2=true then run (yes s x).1 l else((yes s x).1,false)
theorem uO (s:σ) (x:Int) (l:List Int):run yes s (x::l)=if(yes s x).2=true then run yes (yes s x).1 l else((yes s x).1,false):=rfl
theorem eB1 :∀(s:σ) (a b:List Int),run yes s (a++b)=if(run yes s a).2=true then run yes (run yes s a).1 b else((run yes s a).1,false)
 | s,[],b=>rfl
 | s,x::a,b=>by
  rw[List.cons_append,uO,uO];by_cases c:(yes s x).2=true
  ·rw[if_pos c,if_pos c,eB1 (yes s x).1 a b]
  ·rw[if_neg c,if_neg c,if_neg (by simp)]
theorem pP1 (s:σ):run yes s []=(s,true):=rfl
end
def yesF (M:Int) (l:List Int) (t:Int):List Int×Bool:=(l++[t],decide (((l++[t]).length:Int)<M))
theorem pU1 (M:Nat):∀(X l:List Int),l.length<M→run (yesF M) l X=((l++X).take M,decide ((l++X).length<M))
 | [],l,h=>by rw[pP1,rX1,qX1 (by omega),dp h]
 | x::X,l,h=>by
  rw[uO];have e:l++x::X=(l++[x])++X:=by simp
  have hl:(l++[x]).length=l.length+1:=tH l x;show(if decide (((l++[x]).length:Int)<M)=true then run (yesF M) (l++[x]) X else(l++[x],false))=_;rw[hl];by_cases c:l.length+1<M
  ·rw[dp (show((l.length+1:Nat):Int)<M by omega),if_pos rfl,pU1 M X (l++[x]) (by omega),e]
  ·rw[dn (show ¬((l.length+1:Nat):Int)<M by omega),if_neg (by simp),e,yY1 (by omega),qX1 (by omega),dn];rw[zW1];omega
theorem eP :∀{l:List Int},Rise l → ∀{a b:Int},(∀x,x∈l→a≤x∧x≤b)→l.length≤(b+1-a).toNat
 | [],_,_,_,_=>eX1 _
 | x::l,hr,a,b,h=>by
  have h0:=h x (bX1 ..)
  have:=eP (lD.1 hr).2 (a:=x+1) (b:=b) fun y hy=>by have:=h y (yW1 _ hy);have:=(lD.1 hr).1 y hy;omega
  rw[uX1];omega
theorem iD1 {h m c:List Int} (oh:okT h 23) (om:okT m 59) (oc:okT c 59) (lo hi d:Int):(dayL h m c lo hi d).length≤86400:=by
 have:=eP (rP oh.1 om.1 oc.1 om.2.1 oc.2.1 lo hi d) (a:=d*86400) (b:=d*86400+86399) fun x hx=>by have:=(yL oh.2.1 om.2.1 oc.2.1 lo hi d x).1 hx;omega
 omega
theorem iQ (po l:List Int):(aL po l).length≤l.length:=by
 unfold aL;split
 ·exact iX1 _
 ·exact List.length_filter_le _ _
def minL (t:Int) (c:List Int):List Int:=c.map fun s=>t+s
def lZ (t:Int) (m c:List Int):List Int:=m.flatMap fun b=>minL (t+60*b) c
theorem iM {t x:Int} {c:List Int}:x∈minL t c↔x-t∈c:=by
 unfold minL;rw[pX1];constructor
 ·rintro⟨s,hs,e⟩;rw[show x-t=s by omega];exact hs
 ·intro h;exact⟨_,h,by omega⟩
theorem oS {c:List Int} (rc:Rise c) (t:Int):Rise (minL t c):=xW rc _ fun x y h=>by omega
theorem xX {t x:Int} {m c:List Int} (hc:inR c 59):x∈lZ t m c↔(x-t)/60∈m∧(x-t)%60∈c:=by
 unfold lZ;rw[kZ1];constructor
 ·rintro⟨b,hb,hx⟩;have hs:=iM.1 hx;have:=hc _ hs;have e1:(x-t)/60=b:=by omega
  have e2:(x-t)%60=x-(t+60*b):=by omega
  rw[e1,e2];exact⟨hb,hs⟩
 ·rintro⟨h1,h2⟩;refine⟨_,h1,iM.2 ?_⟩;rw[show x-(t+60*((x-t)/60))=(x-t)%60 by omega];exact h2
theorem uK {m c:List Int} (rm:Rise m) (rc:Rise c) (hc:inR c 59) (t:Int):Rise (lZ t m c):=by refine vL rm (fun b hb=>oS rc _) ?_;intro b b' hb hb' hlt x hx y hy;have:=hc _ (iM.1 hx);have:=hc _ (iM.1 hy);omega
section
variable {P : PlT} {r : Rl} {s0 : Int} {F : Int → Bool} {pr : Int → Int} {h m c : List Int} (hP : PlanOK P r s0 F pr h m c)
include hP
theorem aR (t:Int):Rise (minL t c):=oS hP.oc.1 t
theorem sN1 (t:Int):(minL t c).length≤1000000:=by have:=hP.oc.2.2;unfold minL;rw[pY1];omega
theorem fZ (t:Int):(lZ t m c).length≤3600:=by
 have:=eP (uK hP.om.1 hP.oc.1 hP.oc.2.1 t) (a:=t) (b:=t+3599) fun x hx=>by have⟨h1,h2⟩:=(xX hP.oc.2.1).1 hx;have:=hP.om.2.1 _ h1;omega
 omega
theorem sK (d a x:Int) (hd: -719162≤d∧d≤2932896) (ha:a∈h) (hF:F d=true) (h1:d*86400+3600*a≤x) (h2:x<d*86400+3600*a+3600):
  rawP r.2.1 s0 F pr h m c x↔(x-(d*86400+3600*a))/60∈m∧(x-(d*86400+3600*a))%60∈c∧inP r.2.1 s0 pr x:=by
 have ha0:=hP.oh.2.1 a ha;unfold rawP;rw[yB1 hP.om.2.1 hP.oc.2.1,show x%86400/3600=a by omega,show x%86400/60%60=(x-(d*86400+3600*a))/60 by omega,show x%86400%60=(x-(d*86400+3600*a))%60 by omega,show x/86400=d by omega];constructor
 ·rintro⟨_,⟨_,q1,q2⟩,q3,_⟩;exact⟨q1,q2,q3⟩
 ·rintro⟨q1,q2,q3⟩;exact⟨by unfold inT;omega,⟨ha,q1,q2⟩,q3,hF⟩
theorem dQ1 (d a:Int) (hd: -719162≤d∧d≤2932896) (ha:a∈h) (hF:F d=true) (c5:r.1=5):(aL r.2.2.2.2.2.2.2.2.2.2.2.2.2.2.1 (lZ (d*86400+3600*a) m c)).length≤1000000∧Rise (aL r.2.2.2.2.2.2.2.2.2.2.2.2.2.2.1 (lZ (d*86400+3600*a) m c)) ∧
  (inP r.2.1 s0 pr (d*86400+3600*a) → ∀x,x∈aL r.2.2.2.2.2.2.2.2.2.2.2.2.2.2.1 (lZ (d*86400+3600*a) m c)↔picP r.2.1 r.2.2.2.2.2.2.2.2.2.2.2.2.2.2.1 s0 F pr h m c x∧d*86400+3600*a≤x∧x<d*86400+3600*a+3600):=by
 have ha0:=hP.oh.2.1 a ha;have hlen:=fZ hP (d*86400+3600*a);have htT:inT (d*86400+3600*a):=by unfold inT;omega
 have hper:∀x,inT x→d*86400+3600*a≤x→x<d*86400+3600*a+3600→pr x=pr (d*86400+3600*a):=fun x hx h1 h2=>by rw[hP.p5 c5 x hx,hP.p5 c5 _ htT];omega
 refine⟨eZ1 (iQ _ _) (by omega),aN (uK hP.om.1 hP.oc.1 hP.oc.2.1 _),fun hin x=>?_⟩
 have:=xR (po:=r.2.2.2.2.2.2.2.2.2.2.2.2.2.2.1) (iv:=r.2.1) (s:=s0) (F:=F) (pr:=pr) (h:=h) (m:=m) (c:=c) (a:=d*86400+3600*a) (b:=d*86400+3600*a+3600) (uK hP.om.1 hP.oc.1 hP.oc.2.1 (d*86400+3600*a)) (fun y=>by
  rw[xX hP.oc.2.1];constructor
  ·rintro⟨q1,q2⟩;have:=hP.om.2.1 _ q1;have hy:d*86400+3600*a≤y∧y<d*86400+3600*a+3600:=by omega
   refine⟨(sK hP d a y hd ha hF hy.1 hy.2).2 ⟨q1,q2,?_⟩,hy⟩;unfold inP at hin ⊢;rw[hper y (by unfold inT;omega) hy.1 hy.2];exact hin
  ·rintro⟨q,q1⟩;have:=(sK hP d a y hd ha hF q1.1 q1.2).1 q
   exact⟨this.1,this.2.1⟩) (fun x y hx hy h1 h2=>by
   rw[hP.p5 c5 x hx,hP.p5 c5 y hy]
   constructor <;> intro q <;> omega) (fun _=>by omega) x
 rw[qX1 (by omega)]at this;exact this
theorem kN1 (d a b:Int) (hd: -719162≤d∧d≤2932896) (ha:a∈h) (hb:b∈m) (hF:F d=true) (c6:r.1=6):(aL r.2.2.2.2.2.2.2.2.2.2.2.2.2.2.1 (minL (d*86400+3600*a+60*b) c)).length≤1000000∧Rise (aL r.2.2.2.2.2.2.2.2.2.2.2.2.2.2.1 (minL (d*86400+3600*a+60*b) c)) ∧
  (inP r.2.1 s0 pr (d*86400+3600*a+60*b) → ∀x,x∈aL r.2.2.2.2.2.2.2.2.2.2.2.2.2.2.1 (minL (d*86400+3600*a+60*b) c)↔picP r.2.1 r.2.2.2.2.2.2.2.2.2.2.2.2.2.2.1 s0 F pr h m c x∧d*86400+3600*a+60*b≤x∧x<d*86400+3600*a+60*b+60):=by
 have ha0:=hP.oh.2.1 a ha;have hb0:=hP.om.2.1 b hb;have hc60:=hP.oc.2.2;have hlen:(minL (d*86400+3600*a+60*b) c).length≤60:=by unfold minL;rw[pY1];exact hc60
 have htT:inT (d*86400+3600*a+60*b):=by unfold inT;omega
 refine⟨eZ1 (iQ _ _) (by omega),aN (aR hP _),fun hin x=>?_⟩
 have:=xR (po:=r.2.2.2.2.2.2.2.2.2.2.2.2.2.2.1) (iv:=r.2.1) (s:=s0) (F:=F) (pr:=pr) (h:=h) (m:=m) (c:=c) (a:=d*86400+3600*a+60*b) (b:=d*86400+3600*a+60*b+60) (aR hP (d*86400+3600*a+60*b)) (fun y=>by
  rw[iM];constructor
  ·intro q;have:=hP.oc.2.1 _ q;have hy:d*86400+3600*a+60*b≤y∧y<d*86400+3600*a+60*b+60:=by omega
   refine⟨(sK hP d a y hd ha hF (by omega) (by omega)).2 ⟨?_,?_,?_⟩,hy⟩
   ·rw[show(y-(d*86400+3600*a))/60=b by omega];exact hb
   ·rw[show(y-(d*86400+3600*a))%60=y-(d*86400+3600*a+60*b) by omega];exact q
   ·unfold inP at hin ⊢;rw[hP.p6 c6 y (by unfold inT;omega),show y/60=(d*86400+3600*a+60*b)/60 by omega,←hP.p6 c6 _ htT];exact hin
  ·rintro⟨q,q1⟩;have:=(sK hP d a y hd ha hF (by omega) (by omega)).1 q;rw[show y-(d*86400+3600*a+60*b)=(y-(d*86400+3600*a))%60 by omega]
   exact this.2.1) (fun x y hx hy h1 h2=>by
   rw[hP.p6 c6 x hx,hP.p6 c6 y hy]
   constructor <;> intro q <;> omega) (fun _=>by omega) x
 rw[qX1 (by omega)]at this;exact this
theorem gS1 (t:Int) (ht:inT t) (cb:Bool) (hcb:cb=true↔r.2.2.2.2.2.2.2.2.2.2.2.2.2.2.1=[]∨(1:Int)∈r.2.2.2.2.2.2.2.2.2.2.2.2.2.2.1∨(-1:Int)∈r.2.2.2.2.2.2.2.2.2.2.2.2.2.2.1):∀(n:Nat) (x:Int),(60-x).toNat≤n→0≤x→x≤2000 → ∀acc:List Int,acc.length+(60-x).toNat≤60 →
  ∃L:List Int,iA.l1 t r.2.1 x P acc=some (acc++L,())∧Rise L ∧ ∀y,y∈L↔t+x≤y∧y<t+60∧r.2.1∣y-t-x∧y-t∈c∧cb=true:=by
 have hlim:pC=17179869184:=rfl;have hiv:=hP.iv;have lp:=hP.lp;have lc:=hP.oc.2.2;have he:=hP.er;have hec:=hP.ec
 have stop:∀x:Int,¬x<60 → ∀acc:List Int,∃L:List Int,iA.l1 t r.2.1 x P acc=some (acc++L,())∧Rise L ∧ ∀y,y∈L↔t+x≤y∧y<t+60∧r.2.1∣y-t-x∧y-t∈c∧cb=true:=fun x hx acc=>by refine⟨[],?_,xE,fun y=>⟨fun q=>absurd q (by simp),fun q=>by omega⟩⟩;rw[iA.l1_eq,dn hx,cond_false,rX1]
 have hcore:∀(x:Int) (acc:List Int),x<60→iA.l1 t r.2.1 x P acc=iA.l2 t r.2.1 x (decide (x∈c)&&cb) P acc:=fun x acc hx=>by
  rw[iA.l1_eq,dp hx,cond_true,hec,yD c x (by omega),he];simp only[wW1];generalize r.2.2.2.2.2.2.2.2.2.2.2.2.2.2.1=po at hcb lp ⊢;by_cases c1:x∈c
  ·rw[dp c1,cond_true,Bool.true_and];by_cases c2:po=[]
   ·rw[dp (show(po.length:Int)=0 by rw[c2];rfl),cond_true,hcb.2 (.inl c2)]
   ·have:=oG.1 c2;rw[dn (show ¬(po.length:Int)=0 by omega),cond_false,yD po 1 (by omega),yD po (-1) (by omega)];simp only[wW1];by_cases c3:(1:Int)∈po
    ·rw[dp c3,cond_true,hcb.2 (.inr (.inl c3))]
    ·rw[dn c3,cond_false];by_cases c4:(-1:Int)∈po
     ·rw[dp c4,hcb.2 (.inr (.inr c4))]
     ·rw[dn c4,show cb=false by
       cases q:cb with
       | false=>rfl
       | true=>
        rcases hcb.1 q with z | z | z
        ·exact absurd z c2
        ·exact absurd z c3
        ·exact absurd z c4]
  ·rw[dn c1,cond_false,Bool.false_and]
 unfold inT at ht;intro n
 induction n with
 | zero=>intro x hn h0 h1 acc ha;exact stop x (by omega) acc
 | succ n ih=>
  intro x hn h0 h1 acc ha;by_cases hx:x<60
  ·have w1:w6 (x+r.2.1)=x+r.2.1:=wr (by omega) (by omega);have w2:w6 (t+x)=t+x:=wr (by omega) (by omega)
   have hstep:∀y:Int,t+x≤y→r.2.1∣y-t-x→y=t+x∨(t+(x+r.2.1)≤y∧r.2.1∣y-t-(x+r.2.1)):=fun y hy hd=>by
    obtain⟨k,hk⟩:=hd;by_cases ck:k≤0
    ·left;have:r.2.1*k≤0:=Int.mul_nonpos_of_nonneg_of_nonpos (by omega) ck;omega
    ·right;have h3:r.2.1*1≤r.2.1*k:=Int.mul_le_mul_of_nonneg_left (by omega) (by omega);rw[Int.mul_one]at h3;refine⟨by omega,k-1,?_⟩;rw[Int.mul_sub,Int.mul_one];omega
   have hback:∀y:Int,r.2.1∣y-t-(x+r.2.1)→r.2.1∣y-t-x:=fun y ⟨k,hk⟩=>⟨k+1,by rw[Int.mul_add,Int.mul_one];omega⟩
   rw[hcore x acc hx];cases hq:(decide (x∈c)&&cb)with
   | true=>
    rw[xW1,decide_eq_true_eq]at hq;obtain⟨L,g1,g2,g3⟩:=ih (x+r.2.1) (by omega) (by omega) (by omega) (acc++[t+x]) (by rw[tH];omega);refine⟨(t+x)::L,?_,lD.2 ⟨fun y hy=>?_,g2⟩,fun y=>?_⟩
    ·rw[iA.l2_eq,cond_true,w1,w2];simp(disch:=omega)only[ss,hY1,hlim];rw[g1,tX1];rfl
    ·have:=(g3 y).1 hy;omega
    ·rw[cX1,g3];constructor
     ·rintro(e | ⟨q1,q2,q3,q4⟩)
      ·subst e;exact⟨aA2 _,by omega,⟨0,by omega⟩,by rw[show t+x-t=x by omega];exact hq.1,hq.2⟩
      ·exact⟨by omega,q2,hback y q3,q4⟩
     ·rintro⟨q1,q2,q3,q4⟩;rcases hstep y q1 q3 with e | e
      ·exact .inl e
      ·exact .inr ⟨e.1,q2,e.2,q4⟩
   | false=>
    obtain⟨L,g1,g2,g3⟩:=ih (x+r.2.1) (by omega) (by omega) (by omega) acc (by omega);refine⟨L,?_,g2,fun y=>?_⟩
    ·rw[iA.l2_eq,cond_false,w1];exact g1
    ·rw[g3];constructor
     ·rintro⟨q1,q2,q3,q4⟩;exact⟨by omega,q2,hback y q3,q4⟩
     ·rintro⟨q1,q2,q3,q4,q5⟩;rcases hstep y q1 q3 with e | e
      ·rw[e,show t+x-t=x by omega]at q4;rw[dp q4,q5]at hq;cases hq
      ·exact⟨e.1,q2,e.2,q4,q5⟩
  ·exact stop x hx acc
theorem wL1 (d a b:Int) (hd: -719162≤d∧d≤2932896) (ha:a∈h) (hb:b∈m) (hF:F d=true) (c7:r.1=7):
  ∃L:List Int,L.length≤1000000∧(Rise L ∧ ∀x,x∈L↔picP r.2.1 r.2.2.2.2.2.2.2.2.2.2.2.2.2.2.1 s0 F pr h m c x∧d*86400+3600*a+60*b≤x∧x<d*86400+3600*a+60*b+60)∧iA.f P (d*86400+3600*a+60*b)=some (L,()):=by
 have ha0:=hP.oh.2.1 a ha;have hb0:=hP.om.2.1 b hb;have hiv:=hP.iv;have hS:=hP.inS;have htT:inT (d*86400+3600*a+60*b):=by unfold inT;omega
 obtain⟨t,ht⟩:∃t,d*86400+3600*a+60*b=t:=⟨_,rfl⟩
 obtain⟨cb,hcb⟩:∃cb:Bool,cb=true↔r.2.2.2.2.2.2.2.2.2.2.2.2.2.2.1=[]∨(1:Int)∈r.2.2.2.2.2.2.2.2.2.2.2.2.2.2.1∨(-1:Int)∈r.2.2.2.2.2.2.2.2.2.2.2.2.2.2.1:=⟨ind _,lN⟩
 have hx0:0≤(s0-t)%r.2.1:=Int.emod_nonneg _ (by omega);have hx1:(s0-t)%r.2.1<r.2.1:=Int.emod_lt_of_pos _ (by omega);have htm:=Int.tmod_lt_of_pos (s0-t) (show 0<r.2.1 by omega);have htm2:=Int.lt_tmod_of_pos (s0-t) (show 0<r.2.1 by omega);unfold inT at htT hS;have hstart:Int.tmod (w6 (Int.tmod (w6 (s0-t)) r.2.1+r.2.1)) r.2.1=(s0-t)%r.2.1:=by rw[wr (x:=s0-t) (by omega) (by omega),wr (by omega) (by omega),Int.tmod_eq_emod_of_nonneg (by omega)];have e:=Int.mul_tdiv_add_tmod (s0-t) r.2.1;rw[show Int.tmod (s0-t) r.2.1+r.2.1=(s0-t)+r.2.1*(1-Int.tdiv (s0-t) r.2.1) by rw[Int.mul_sub,Int.mul_one];omega];exact Int.add_mul_emod_self_left _ _ _
 obtain⟨L,g1,g2,g3⟩:=gS1 hP t (by unfold inT;omega) cb hcb 60 ((s0-t)%r.2.1) (by omega) hx0 (by omega) [] (by simp;omega)
 have hlen:=eP g2 (a:=t) (b:=t+59) fun y hy=>by have:=(g3 y).1 hy;omega
 rw[ht];refine⟨L,by omega,⟨g2,fun x=>?_⟩,?_⟩
 ·rw[g3];have hdiv:r.2.1∣s0-t-(s0-t)%r.2.1:=⟨(s0-t)/r.2.1,by have:=Int.mul_ediv_add_emod (s0-t) r.2.1;omega⟩
  have hkey:t≤x→x<t+60→(inP r.2.1 s0 pr x↔t+(s0-t)%r.2.1≤x∧r.2.1∣x-t-(s0-t)%r.2.1):=fun q1 q2=>by
   unfold inP;rw[hP.p7 c7 x (by unfold inT;omega),hP.p7 c7 s0 hP.inS,←Int.dvd_iff_tmod_eq_zero];constructor
   ·intro q;have q':r.2.1∣x-t-(s0-t)%r.2.1:=by have:=Int.dvd_add q hdiv;rw[show x-s0+(s0-t-(s0-t)%r.2.1)=x-t-(s0-t)%r.2.1 by omega]at this;exact this
    refine⟨?_,q'⟩;obtain⟨k,hk⟩:=q';by_cases ck:k<0
    ·have h3:r.2.1*k≤r.2.1*(-1):=Int.mul_le_mul_of_nonneg_left (by omega) (by omega);omega
    ·have:0≤r.2.1*k:=Int.mul_nonneg (by omega) (by omega);omega
   ·rintro⟨_,q⟩;have:=Int.dvd_sub q hdiv;rw[show x-t-(s0-t)%r.2.1-(s0-t-(s0-t)%r.2.1)=x-s0 by omega]at this;exact this
  have hraw:t≤x→x<t+60→(rawP r.2.1 s0 F pr h m c x↔x-t∈c∧inP r.2.1 s0 pr x):=fun q1 q2=>by rw[sK hP d a x hd ha hF (by omega) (by omega),show(x-(d*86400+3600*a))/60=b by omega,show(x-(d*86400+3600*a))%60=x-t by omega];exact⟨fun q=>q.2,fun q=>⟨hb,q⟩⟩
  have hpl:rawP r.2.1 s0 F pr h m c x→((r.2.2.2.2.2.2.2.2.2.2.2.2.2.2.1=[] ∨ ∃G:List Int,Rise G∧(∀y,y∈G↔rawP r.2.1 s0 F pr h m c y∧pr y=pr x)∧jK1 r.2.2.2.2.2.2.2.2.2.2.2.2.2.2.1 (G.take 100001) x)↔cb=true):=fun q=>by
   have hG:∀G:List Int,Rise G→(∀y,y∈G↔rawP r.2.1 s0 F pr h m c y∧pr y=pr x)→G=[x]:=fun G z1 z2=>by
    refine gJ z1 (lD.2 ⟨fun y hy=>absurd hy (by simp),xE⟩) fun y=>?_
    rw[z2,fY1];constructor
    ·rintro⟨w,w1⟩;rw[hP.p7 c7 y w.1,hP.p7 c7 x q.1]at w1;exact w1
    ·intro w;subst w;exact⟨q,rfl⟩
   rw[hcb];constructor
   ·rintro(z | ⟨G,z1,z2,z3⟩)
    ·exact .inl z
    ·rw[hG G z1 z2]at z3;obtain⟨_,i,i1,i2,i3⟩:=z3;have:i=0:=by simpa using i1
     subst this;rcases i3 with i3 | i3
     ·exact .inr (.inl (by simpa using i3))
     ·exact .inr (.inr (by simpa using i3))
   ·rintro(z | z)
    ·exact .inl z
    ·refine .inr ⟨[x],lD.2 ⟨fun y hy=>absurd hy (by simp),xE⟩,fun y=>?_,?_⟩
     ·rw[fY1];constructor
      ·intro w;subst w;exact⟨q,rfl⟩
      ·rintro⟨w,w1⟩;rw[hP.p7 c7 y w.1,hP.p7 c7 x q.1]at w1;exact w1
     ·refine⟨by simp,0,by simp,rfl,?_⟩;rcases z with z | z
      ·exact .inl (by simpa using z)
      ·exact .inr (by simpa using z)
  unfold picP;constructor
  ·rintro⟨q1,q2,q3,q4,q5⟩;have hr:=(hraw (by omega) q2).2 ⟨q4,(hkey (by omega) q2).2 ⟨q1,q3⟩⟩;exact⟨⟨hr,(hpl hr).2 q5⟩,by omega,q2⟩
  ·rintro⟨⟨q,q1⟩,q2,q3⟩;have h1:=(hraw q2 q3).1 q;have h2:=(hkey q2 q3).1 h1.2;exact⟨h2.1,q3,h2.2,h1.1,(hpl q).1 q1⟩
 ·rw[iA.f_eq,hP.er,hP.es,hstart,dn (show ¬r.2.1=0 by omega),dY1,cond_true,cond_true];rw[bY1]at g1;exact g1
end
abbrev clA (K:Int) (l:List Int):(List Int×Unit)×(Int×Unit)×Unit:=((l,()),(K,()),())
abbrev yA :=yesF
def invA (K:Int) (l:List Int):Prop:=(l.length:Int)<K∧K≤100000
theorem yesA {K:Int} {l:List Int} (hi:invA K l) (x:Int):eF.f x (l,()) (K,())=some ((yA K l x).2,((yA K l x).1,()),(K,()),())∧((yA K l x).2=true→invA K (yA K l x).1):=by
 unfold invA at hi ⊢;have hlim:pC=17179869184:=rfl;constructor
 ·rw[eF.f_eq];simp(disch:=omega)only[ss,hY1,hlim];rfl
 ·intro h;exact⟨of_decide_eq_true h,hi.2⟩
section
variable {K fr en : Int}
theorem yM1 {L:List Int} (hl:L.length≤1000000):∀(n i:Nat),L.length-i=n→i≤L.length → ∀s:List Int,invA K s →
  ∃s' b,run (yA K) s ((L.drop i).filter (inW fr en))=(s',b)∧(b=true→invA K s')∧lA.l1 L (L.length:Int) (i:Int) fr en K s=some (b,(fr,()),(en,()),(clA K s',()),()):=by
 intro n
 induction n with
 | zero=>
  intro i hn hi s hs;have e:i=L.length:=by omega
  subst e;refine⟨s,true,by rw[jY1];rfl,fun _=>hs,?_⟩;rw[lA.l1_eq];simp(disch:=omega)only[ss]
 | succ n ih=>
  intro i hn hi s hs;have hlt:i<L.length:=by omega
  have ih':=ih (i+1) (by omega) (by omega);rw[mY1,nY1]at ih';rw[lA.l1_eq,xY1,pB 0 hlt];generalize L.getD i 0=x;by_cases c:fr≤x∧x<en
  ·have hin:inW fr en x=true:=by unfold inW;rw[dp c.1,dp c.2];rfl
   rw[List.filter_cons_of_pos hin,uO];obtain⟨hy,hinv⟩:=yesA hs x
   cases hb:(yA K s x).2 with
   | true=>
    obtain⟨s',b,h1,h2,h3⟩:=ih' _ (hinv hb);refine⟨s',b,by rw[if_pos rfl];exact h1,h2,?_⟩;simp(disch:=omega)only[ss,hy,hb,lA.l2_eq];exact h3
   | false=>
    refine⟨_,false,by rw[if_neg (by simp)],(fun q=>by cases q),?_⟩;simp(disch:=omega)only[ss,hy,hb,lA.l2_eq]
  ·have hin:inW fr en x=false:=by
    cases q:inW fr en x with
    | false=>rfl
    | true=>
     unfold inW at q;rw[xW1,decide_eq_true_eq,decide_eq_true_eq]at q;exact absurd q c
   rw[List.filter_cons_of_neg (by rw[hin];simp)];obtain⟨s',b,h1,h2,h3⟩:=ih' s hs;refine⟨s',b,h1,h2,?_⟩;by_cases c1:fr≤x
   ·simp(disch:=omega)only[ss,lA.l2_eq];exact h3
   ·simp(disch:=omega)only[ss,lA.l2_eq];exact h3
theorem gL1 {L:List Int} (hl:L.length≤1000000) (s:List Int) (hs:invA K s):
  ∃s' b,run (yA K) s (L.filter (inW fr en))=(s',b)∧(b=true→invA K s')∧lA.f L (fr,()) (en,()) (clA K s,())=some (b,(fr,()),(en,()),(clA K s',()),()):=by
 have h:=yM1 (fr:=fr) (en:=en) hl L.length 0 (by omega) (eX1 _) s hs;rw[sX1,cY1]at h;rw[lA.f_eq];exact h
theorem iK {s s1 s2:List Int} {a b c:List Int} {q:Bool} (e:a++b=c) (h1:run (yA K) s a=(s1,true)) (h2:run (yA K) s1 b=(s2,q)):run (yA K) s c=(s2,q):=by rw[←e,eB1,h1,if_pos rfl,h2]
theorem eI {s s1:List Int} {a b c:List Int} (e:a++b=c) (h1:run (yA K) s a=(s1,false)):run (yA K) s c=(s1,false):=by rw[←e,eB1,h1,if_neg (by simp)]
end
section
variable {P : PlT} {r : Rl} {s0 : Int} {F : Int → Bool} {pr : Int → Int} {h m c : List Int} (hP : PlanOK P r s0 F pr h m c) {K fr en : Int} (hfr : -63000000000 ≤ fr ∧ fr ≤ 300000000000) (hen : -63000000000 ≤ en ∧ en ≤ 300000000000)
include hP
theorem dS1 (W:Int→Prop) (A B hi E:Int) (hE:mm false B hi=E) (hEB:E≤B) (hA: -719162≤A) (hB:B≤2932896)
  (hday:∀d,A≤d→d≤B→F d=true→(dayL h m c 0 86400 d).filter (inW fr en)=memC W fr en (d*86400) ((d+1)*86400)) (hno:∀d,A≤d→d≤B→F d=false→memC W fr en (d*86400) ((d+1)*86400)=[]):
  ∀(n:Nat) (d:Int),(E+1-d).toNat=n→A≤d → ∀s:List Int,invA K s →
  ∃s' b,run (yA K) s (memC W fr en (d*86400) ((E+1)*86400))=(s',b)∧(b=true→invA K s')∧dA.l1 B hi d fr en K s P=some (b,((fr,()),(en,()),(clA K s',()),()),()):=by
 intro n
 induction n with
 | zero=>
  intro d hn hd s hs;refine⟨s,true,by rw[fF W fr en (fun x _ _ h1 h2=>by omega)];rfl,fun _=>hs,?_⟩;rw[dA.l1_eq,hE,dn (show ¬d≤E by omega),cond_false]
 | succ n ih=>
  intro d hn hd s hs;have hdE:d≤E:=by omega
  have hw:w6 (d+1)=d+1:=wr (by omega) (by omega);have hsp:=sN W fr en (a:=d*86400) (b:=(d+1)*86400) (c:=(E+1)*86400) (by omega) (by omega);rw[dA.l1_eq,hE,dp hdE,cond_true,iB.f_eq,hP.fits d];simp only[wW1]
  cases hF:F d with
  | false=>
   rw[hno d hd (by omega) hF,bY1]at hsp;obtain⟨s',b,h1,h2,h3⟩:=ih (d+1) (by omega) (by omega) s hs;refine⟨s',b,by rw[←hsp];exact h1,h2,?_⟩;rw[cond_false,dA.l2_eq,cond_false,hw];exact h3
  | true=>
   have hdv:=kH1 0 86400 d P 100000 (by omega) (by omega) (by omega) (by omega) (by rw[hP.eh];exact hP.oh) (by rw[hP.em];exact hP.om) (by rw[hP.ec];exact hP.oc);rw[hP.eh,hP.em,hP.ec,show((100000:Nat):Int)=100000 from rfl,qX1 (eZ1 (iD1 hP.oh hP.om hP.oc 0 86400 d) (by decide))]at hdv;obtain⟨s1,b1,g1,g2,g3⟩:=gL1 (K:=K) (fr:=fr) (en:=en) (L:=dayL h m c 0 86400 d) (eZ1 (iD1 hP.oh hP.om hP.oc 0 86400 d) (by decide)) s hs;rw[hday d hd (by omega) hF]at g1;rw[cond_true,hdv];simp only[wW1];rw[g3];simp only[wW1]
   cases b1 with
   | false=>
    refine⟨s1,false,eI hsp g1,(fun q=>by cases q),?_⟩;rw[dA.l2_eq,dY1,cond_true]
   | true=>
    obtain⟨s',b,h1,h2,h3⟩:=ih (d+1) (by omega) (by omega) s1 (g2 rfl);refine⟨s',b,iK hsp g1 h1,h2,?_⟩;rw[dA.l2_eq,gX1,cond_false,hw];exact h3
include hfr hen
theorem perA (t A B:Int) (ht:inT t) (hA: -719162≤A) (hB:B≤2932896) (hAB:A≤t/86400∧t/86400≤B) (hp:∀x,inT x→(pr x=pr t↔A≤x/86400∧x/86400≤B)) (hin:inP r.2.1 s0 pr t) (s:List Int) (hs:invA K s):
  ∃s' b,run (yA K) s (memC (picP r.2.1 r.2.2.2.2.2.2.2.2.2.2.2.2.2.2.1 s0 F pr h m c) fr en (A*86400) ((B+1)*86400))=(s',b)∧(b=true→invA K s') ∧
   dA.f P t A B fr en ((fr,()),(en,()),(clA K s,()),())=some (b,((fr,()),(en,()),(clA K s',()),()),()):=by
 have hpp:∀x y,inT x→inT y→A*86400≤x→x<(B+1)*86400→(pr y=pr x↔A*86400≤y∧y<(B+1)*86400):=fun x y hx hy h1 h2=>by rw[(hp x hx).2 (by omega),hp y hy];constructor <;> intro q <;> omega
 rw[dA.f_eq,hP.er];have hpv:=fun L hr hl=>zW hP (L:=L) hr hl
 have hpm:=fun G (hG:Rise G) (hm:∀x,x∈G↔rawP r.2.1 s0 F pr h m c x∧A*86400≤x∧x<(B+1)*86400) hlen=>xR (po:=r.2.2.2.2.2.2.2.2.2.2.2.2.2.2.1) hG hm hpp hlen
 generalize r.2.2.2.2.2.2.2.2.2.2.2.2.2.2.1=po at hpv hpm ⊢;by_cases cp:po=[]
 ·have hd1:=(wF fr (by omega) (by omega)).1;have hd2:=(wF en (by omega) (by omega)).1;obtain⟨E,hE⟩:∃E,mm false B (en/86400)=E:=⟨_,rfl⟩
  obtain⟨D,hD⟩:∃D,mm true A (fr/86400)=D:=⟨_,rfl⟩
  have hE':=hE;have hD':=hD;rw[dJ1]at hE';rw[pO1]at hD';have hraw:∀x,picP r.2.1 po s0 F pr h m c x↔rawP r.2.1 s0 F pr h m c x:=fun x=>⟨fun q=>q.1,fun q=>⟨q,.inl cp⟩⟩
  have hl:=dS1 hP (K:=K) (picP r.2.1 po s0 F pr h m c) A B (en/86400) E hE (by omega) hA hB
   (fun d h1 h2 hF=>bR _ fr en (rP hP.oh.1 hP.om.1 hP.oc.1 hP.om.2.1 hP.oc.2.1 0 86400 d) fun x=>by
    rw[yL hP.oh.2.1 hP.om.2.1 hP.oc.2.1,hraw];constructor
    ·rintro⟨q1,q2,q3,q4⟩;have hx:inT x:=by unfold inT;omega
     refine⟨⟨hx,q2,?_,by rw[q1];exact hF⟩,by omega,by omega⟩;unfold inP at hin ⊢;rw[(hp x hx).2 (by omega)];exact hin
    ·rintro⟨q,q1,q2⟩
     exact⟨by omega,q.2.1,by omega,by omega⟩)
   (fun d h1 h2 hF=>fF _ fr en fun x _ _ q1 q2 q=>by
    have q:=((hraw x).1 q).2.2.2;rw[show x/86400=d by omega,hF]at q
    cases q) (E+1-D).toNat D rfl (by omega) s hs
  obtain⟨s',b,h1,h2,h3⟩:=hl
  have e:memC (picP r.2.1 po s0 F pr h m c) fr en (A*86400) ((B+1)*86400)=memC (picP r.2.1 po s0 F pr h m c) fr en (D*86400) ((E+1)*86400):=bJ _ fr en fun x q1 q2=>by
   constructor
   ·rintro⟨q,q3,q4⟩;exact⟨q,by omega,by omega⟩
   ·rintro⟨q,q3,q4⟩;exact⟨q,by omega,by omega⟩
  refine⟨s',b,by rw[e];exact h1,h2,?_⟩;rw[dn (show ¬(po.length:Int)>0 by rw[cp];simp),cond_false,hd1,hd2];simp only[wW1];rw[hD];exact h3
 ·have hpos:=oG.1 cp;obtain⟨G,G1,G2,G3⟩:=hS1 hP t ht;have g:=G3 100000 (by omega);rw[show((100000:Nat):Int)=100000 from rfl]at g;have hlen:(G.take (100000+1)).length≤1000000:=by rw[mX1];omega
  have hm:∀x,x∈G↔rawP r.2.1 s0 F pr h m c x∧A*86400≤x∧x<(B+1)*86400:=fun x=>by
   rw[G2];constructor
   ·rintro⟨q,q1⟩;have:=(hp x q.1).1 q1;exact⟨q,by omega,by omega⟩
   ·rintro⟨q,q1⟩;exact⟨q,(hp x q.1).2 (by omega)⟩
  have hpk:=hpv _ (sY G1 (100000+1)) hlen;have hlp:(aL po (G.take (100000+1))).length≤1000000:=eZ1 (iQ po _) hlen;obtain⟨s',b,h1,h2,h3⟩:=gL1 (K:=K) (fr:=fr) (en:=en) hlp s hs;rw[bR _ fr en (aN (sY G1 (100000+1))) (hpm G G1 hm (fun q=>absurd q cp))]at h1;refine⟨s',b,h1,h2,?_⟩;rw[dp hpos,cond_true,g];simp only[wW1];rw[hpk];simp only[wW1];rw[h3];rfl
theorem gO1 (hf:r.1≤4) (hs0:s0≤fr) (hen2:en≤253402300800):∀(n:Nat) (t:Int),(en-t).toNat≤n→fr≤t→(t<en → ∀x,inT x→fr≤x→x<t→pr x≠pr t) → ∀s:List Int,invA K s →
  ∃s' b,run (yA K) s (memC (picP r.2.1 r.2.2.2.2.2.2.2.2.2.2.2.2.2.2.1 s0 F pr h m c) fr en t en)=(s',b)∧jA.l1 fr en t fr en K s P=some (((fr,()),(en,()),(clA K s',()),()),()):=by
 have hstop:∀t:Int,¬t<en → ∀s:List Int,invA K s → ∃s' b,run (yA K) s (memC (picP r.2.1 r.2.2.2.2.2.2.2.2.2.2.2.2.2.2.1 s0 F pr h m c) fr en t en)=(s',b)∧jA.l1 fr en t fr en K s P=some (((fr,()),(en,()),(clA K s',()),()),()):=fun t c s hs=>by refine⟨s,true,by rw[fF _ fr en (fun x _ _ h1 h2=>by omega)];rfl,?_⟩;rw[jA.l1_eq,dn c,cond_false]
 intro n
 induction n with
 | zero=>
  intro t hn ht hI s hs;exact hstop t (by omega) s hs
 | succ n ih=>
  intro t hn ht hI s hs;by_cases cT:t<en
  ·have hS:=hP.inS;have htT:inT t:=by unfold inT at hS ⊢;omega
   obtain⟨A,B,g1,g2,g3,_⟩:=hP.days t htT;have hp:=g3 hf;have hw1:w6 (B+1)=B+1:=wr (by omega) (by omega);have hw2:w6 ((B+1)*86400)=(B+1)*86400:=wr (by omega) (by omega)
   have hI':(B+1)*86400<en → ∀x,inT x→fr≤x→x<(B+1)*86400→pr x≠pr ((B+1)*86400):=fun q x hx h1 h2 e=>by
    have hT':inT ((B+1)*86400):=by unfold inT at hS ⊢;omega
    have hy:inT (B*86400):=by unfold inT;omega
    by_cases cx:x≤B*86400
    ·have e1:=hP.mono x _ hx hy cx;have e2:=hP.mono _ _ hy hT' (by omega);have e3:=(hp _ hy).2 ⟨by omega,by omega⟩;have:=(hp _ hT').1 (by omega);omega
    ·have e3:=(hp x hx).2 ⟨by omega,by omega⟩;have:=(hp _ hT').1 (by omega);omega
   have ih':=ih ((B+1)*86400) (by omega) (by omega) hI';have hsp:=sN (picP r.2.1 r.2.2.2.2.2.2.2.2.2.2.2.2.2.2.1 s0 F pr h m c) fr en (a:=t) (b:=(B+1)*86400) (c:=if(B+1)*86400≤en then en else(B+1)*86400) (by omega) (by split <;> omega)
   have hlast:memC (picP r.2.1 r.2.2.2.2.2.2.2.2.2.2.2.2.2.2.1 s0 F pr h m c) fr en t (if(B+1)*86400≤en then en else(B+1)*86400)=memC (picP r.2.1 r.2.2.2.2.2.2.2.2.2.2.2.2.2.2.1 s0 F pr h m c) fr en t en:=bJ _ fr en fun x q1 q2=>by
    split
    ·exact Iff.rfl
    ·exact⟨fun q=>⟨q.1,q.2.1,by omega⟩,fun q=>⟨q.1,q.2.1,by omega⟩⟩
   have hnext:memC (picP r.2.1 r.2.2.2.2.2.2.2.2.2.2.2.2.2.2.1 s0 F pr h m c) fr en ((B+1)*86400) (if(B+1)*86400≤en then en else(B+1)*86400)=memC (picP r.2.1 r.2.2.2.2.2.2.2.2.2.2.2.2.2.2.1 s0 F pr h m c) fr en ((B+1)*86400) en:=bJ _ fr en fun x q1 q2=>by
    split
    ·exact Iff.rfl
    ·exact⟨fun q=>⟨q.1,q.2.1,by omega⟩,fun q=>⟨q.1,q.2.1,by omega⟩⟩
   rw[hlast,hnext]at hsp;rw[jA.l1_eq,dp cT,cond_true,g1];simp only[wW1];rw[sD1 hP t htT];simp only[wW1];by_cases cin:inP r.2.1 s0 pr t
   ·obtain⟨s1,b1,k1,k2,k3⟩:=perA hP hfr hen (K:=K) t A B htT (by omega) (by omega) ⟨g2.1,g2.2.1⟩ hp cin s hs
    have e:memC (picP r.2.1 r.2.2.2.2.2.2.2.2.2.2.2.2.2.2.1 s0 F pr h m c) fr en (A*86400) ((B+1)*86400)=memC (picP r.2.1 r.2.2.2.2.2.2.2.2.2.2.2.2.2.2.1 s0 F pr h m c) fr en t ((B+1)*86400):=bJ _ fr en fun x q1 q2=>by
     constructor
     ·rintro⟨q,q3,q4⟩;refine⟨q,?_,q4⟩;refine Classical.byContradiction fun z=>?_
      exact hI cT x q.1.1 q1 (by omega) ((hp x q.1.1).2 ⟨by omega,by omega⟩)
     ·rintro⟨q,q3,q4⟩;exact⟨q,by omega,q4⟩
    rw[e]at k1;rw[dp cin,cond_true,k3];simp only[wW1];rw[jA.l2_eq]
    cases b1 with
    | false=>exact⟨s1,false,eI hsp k1,rfl⟩
    | true=>
     obtain⟨s',b,h1,h2⟩:=ih' s1 (k2 rfl);refine⟨s',b,iK hsp k1 h1,?_⟩;rw[gX1,cond_false,hw1,hw2];exact h2
   ·have e:memC (picP r.2.1 r.2.2.2.2.2.2.2.2.2.2.2.2.2.2.1 s0 F pr h m c) fr en t ((B+1)*86400)=[]:=fF _ fr en fun x _ _ q3 q4 q=>by have q5:=q.1.2.2.1;unfold inP at cin q5;rw[(hp x q.1.1).2 ⟨by omega,by omega⟩]at q5;exact cin q5
    rw[e,bY1]at hsp;obtain⟨s',b,h1,h2⟩:=ih' s hs;refine⟨s',b,by rw[←hsp];exact h1,?_⟩;rw[dn cin,cond_false,jA.l2_eq,cond_false,hw1,hw2];exact h2
  ·exact hstop t cT s hs
theorem xU1 (hf:r.1≤4) (hs0:s0≤fr) (hen2:en≤253402300800) (s:List Int) (hs:invA K s):
  ∃s' b,run (yA K) s (memL (picP r.2.1 r.2.2.2.2.2.2.2.2.2.2.2.2.2.2.1 s0 F pr h m c) fr en)=(s',b)∧jA.f P fr en ((fr,()),(en,()),(clA K s,()),())=some (((fr,()),(en,()),(clA K s',()),()),()):=by
 obtain⟨s',b,h1,h2⟩:=gO1 hP hfr hen (K:=K) hf hs0 hen2 _ fr (iX1 _) (aA2 _) (fun _ x _ q1 q2=>by omega) s hs;rw[bX]at h1;refine⟨s',b,h1,?_⟩;rw[jA.f_eq];exact h2
end
section
variable {K fr en : Int} {P : PlT}
theorem oH1 {c:List Int} (hc:okT c 59) (at_ t:Int) (ht: -63000000000≤t∧t≤300000000000) (m:List Int) (ml i:Int) (s:List Int):∀(n j:Nat),c.length-j=n→j≤c.length → ∀acc:List Int,acc.length≤j →
  aA.l2a at_ t m ml i c (c.length:Int) (j:Int) fr en K s P acc=(eB.f P (acc++(c.drop j).map fun x=>t+x)).bind fun q=>aA.l3 at_ q.1 m ml i fr en K s P:=by
 have hlim:pC=17179869184:=rfl;have lc:=hc.2.2;intro n
 induction n with
 | zero=>
  intro j hn hj acc ha;have e:j=c.length:=by omega
  subst e;rw[aA.l2a_eq,dn (show ¬(c.length:Int)<(c.length:Int) by omega),cond_false,jY1,List.map_nil,rX1]
 | succ n ih=>
  intro j hn hj acc ha;have hlt:j<c.length:=by omega
  have hx:=hc.2.1 _ (aH hlt);have ih':=ih (j+1) (by omega) (by omega) (acc++[t+c.getD j 0]) (by rw[tH];omega);rw[mY1,nY1]at ih';rw[aA.l2a_eq,xY1,pB 0 hlt];generalize c.getD j 0=x at hx ih' ⊢;simp(disch:=omega)only[ss,hY1,hlim];rw[ih',tX1];rfl
theorem nV1 {c:List Int} (hc:okT c 59) (at_ t:Int) (ht: -63000000000≤t∧t≤300000000000) (m:List Int) (ml i:Int) (s:List Int):
  aA.l2 at_ t m ml i c (c.length:Int) 0 fr en K s P=(eB.f P (minL t c)).bind fun q=>aA.l3 at_ q.1 m ml i fr en K s P:=by
 have hlim:pC=17179869184:=rfl;have lc:=hc.2.2;rw[aA.l2_eq];unfold minL
 cases c with
 | nil=>rfl
 | cons x c=>
  have hx:=hc.2.1 x (bX1 ..);have h:=oH1 (K:=K) (fr:=fr) (en:=en) (P:=P) hc at_ t ht m ml i s c.length 1 (by rw[uX1];omega) (by rw[uX1];omega) [t+x] (by simp);have hlen:((x::c).length:Int)>0:=by rw[uX1];omega
  have hw:w6 (t+x)=t+x:=wr (by omega) (by omega);rw[dp (show(0:Int)<((x::c).length:Int) by omega),cond_true,dp (show(0:Int)≤0 by omega),cond_true,cond_true,tn_0,List.getD_cons_zero,hw];rw[dp (show([]:List Int).length+[t+x].length≤pC by rw[hlim];simp),cond_true];exact h
theorem hI1 {c:List Int} (hc:okT c 59) (at_ t b:Int) (ht: -63000000000≤t∧t≤300000000000) (hb:0≤b∧b≤59) (h:List Int) (hl i:Int) (m:List Int) (ml j:Int) (s:List Int) (N:Nat) (hN:N≤3600):∀(n k:Nat),c.length-k=n→k≤c.length → ∀acc:List Int,acc.length≤N+k →
  fA.l3 at_ t b h hl i m ml j c (c.length:Int) (k:Int) fr en K s P acc=fA.l2 at_ t h hl i m ml (w6 (j+1)) fr en K s P (acc++(c.drop k).map fun x=>t+60*b+x):=by
 have hlim:pC=17179869184:=rfl;have lc:=hc.2.2;intro n
 induction n with
 | zero=>
  intro k hn hk acc ha;have e:k=c.length:=by omega
  subst e;rw[fA.l3_eq,dn (show ¬(c.length:Int)<(c.length:Int) by omega),cond_false,jY1,List.map_nil,rX1]
 | succ n ih=>
  intro k hn hk acc ha;have hlt:k<c.length:=by omega
  have hx:=hc.2.1 _ (aH hlt);have ih':=ih (k+1) (by omega) (by omega) (acc++[t+60*b+c.getD k 0]) (by rw[tH];omega);rw[mY1,nY1]at ih';rw[fA.l3_eq,xY1,pB 0 hlt];generalize c.getD k 0=x at hx ih' ⊢;simp(disch:=omega)only[ss,hY1,hlim];rw[ih',tX1];rfl
theorem kI1 {m c:List Int} (hP:P.2.2.2.2.2.1=c) (om:okT m 59) (hc:okT c 59) (at_ t:Int) (ht: -63000000000≤t∧t≤300000000000) (h:List Int) (hl i:Int) (s:List Int):∀(n j:Nat),m.length-j=n→j≤m.length → ∀acc:List Int,acc.length≤60*j →
  fA.l2 at_ t h hl i m (m.length:Int) (j:Int) fr en K s P acc=fA.l2 at_ t h hl i m (m.length:Int) (m.length:Int) fr en K s P (acc++(m.drop j).flatMap fun b=>minL (t+60*b) c):=by
 have lc:=hc.2.2;have lm:=om.2.2;intro n
 induction n with
 | zero=>
  intro j hn hj acc ha;have e:j=m.length:=by omega
  subst e;rw[jY1,List.flatMap_nil,rX1]
 | succ n ih=>
  intro j hn hj acc ha;have hlt:j<m.length:=by omega
  have hx:=om.2.1 _ (aH hlt);have hw:w6 ((j:Int)+1)=((j+1:Nat):Int):=xP1 (by omega);rw[fA.l2_eq,xY1,pB 0 hlt,rZ1,hP];generalize m.getD j 0=b at hx ⊢;have h3:=hI1 (K:=K) (fr:=fr) (en:=en) (P:=P) hc at_ t b ht hx h hl i m (m.length:Int) (j:Int) s (60*j) (by omega) c.length 0 (by omega) (eX1 _) acc (by omega);rw[sX1,cY1,hw]at h3;have ih':=ih (j+1) (by omega) (by omega) (acc++minL (t+60*b) c) (by unfold minL;rw[zW1,pY1];omega);rw[dp (show(j:Int)<(m.length:Int) by omega),dp (show(0:Int)≤(j:Int) by omega),cond_true,cond_true,cond_true,h3];rw[tX1]at ih';exact ih'
end
section
variable {P : PlT} {r : Rl} {s0 : Int} {F : Int → Bool} {pr : Int → Int} {h m c : List Int} (hP : PlanOK P r s0 F pr h m c) {K fr en : Int} (hfr : -63000000000 ≤ fr ∧ fr ≤ 300000000000) (hen : -63000000000 ≤ en ∧ en ≤ 300000000000)
include hP
theorem rL1 (d a:Int) (hd: -719162≤d∧d≤2932896) (ha:a∈h) (hF:F d=true) (hf:r.1=6∨r.1=7):∀(n i:Nat),m.length-i=n→i≤m.length → ∀s:List Int,invA K s →
  ∃s' b,run (yA K) s (memC (fun x=>picP r.2.1 r.2.2.2.2.2.2.2.2.2.2.2.2.2.2.1 s0 F pr h m c x∧(x-(d*86400+3600*a))/60∈m.drop i) fr en (d*86400+3600*a) (d*86400+3600*a+3600))=(s',b)∧(b=true→invA K s') ∧
   aA.l1 (d*86400+3600*a) m (m.length:Int) (i:Int) fr en K s P=some (b,((fr,()),(en,()),(clA K s',()),()),()):=by
 have lm:=hP.om.2.2;have lc:=hP.oc.2.2;have ha0:=hP.oh.2.1 a ha;intro n
 induction n with
 | zero=>
  intro i hn hi s hs;have e:i=m.length:=by omega
  subst e;refine⟨s,true,by rw[fF _ fr en (fun x _ _ _ _ q=>by rw[jY1]at q;exact absurd q.2 (by simp))];rfl,fun _=>hs,?_⟩;rw[aA.l1_eq];simp(disch:=omega)only[ss]
 | succ n ih=>
  intro i hn hi s hs;have hlt:i<m.length:=by omega
  have ih':=ih (i+1) (by omega) (by omega);rw[mY1,nY1]at ih';have hbm:=aH hlt;have hb0:=hP.om.2.1 _ hbm;have hrd:Rise (m.drop i):=List.Pairwise.sublist (List.drop_sublist i m) hP.om.1;rw[pB 0 hlt]at hrd ⊢;have hgb:m.getD (i:Int).toNat 0=m.getD i 0:=by rw[xY1]
  rw[aA.l1_eq,hgb];generalize m.getD i 0=b at hbm hb0 hrd ⊢;have hsp:=qZ (picP r.2.1 r.2.2.2.2.2.2.2.2.2.2.2.2.2.2.1 s0 F pr h m c) fr en (a:=b) (l:=m.drop (i+1)) (lo:=d*86400+3600*a) (hi:=d*86400+3600*a+3600) (a1:=d*86400+3600*a+60*b) (a2:=d*86400+3600*a+60*b+60)
   (fun x=>(x-(d*86400+3600*a))/60) hrd (fun x y q=>by omega) (fun x _=>by constructor <;> intro q <;> omega)
  have w1:w6 (d*86400+3600*a+w6 ((60:Int)*b))=d*86400+3600*a+60*b:=by rw[wr (x:=(60:Int)*b) (by omega) (by omega),wr (by omega) (by omega)]
  have w2:w6 ((i:Int)+1)=(i:Int)+1:=wr (by omega) (by omega);have htT:inT (d*86400+3600*a+60*b):=by unfold inT;omega
  have fin:∀L:List Int,L.length≤1000000→L.filter (inW fr en)=memC (picP r.2.1 r.2.2.2.2.2.2.2.2.2.2.2.2.2.2.1 s0 F pr h m c) fr en (d*86400+3600*a+60*b) (d*86400+3600*a+60*b+60) →
    ∃s' b',run (yA K) s (memC (fun x=>picP r.2.1 r.2.2.2.2.2.2.2.2.2.2.2.2.2.2.1 s0 F pr h m c x∧(x-(d*86400+3600*a))/60∈b::m.drop (i+1)) fr en (d*86400+3600*a) (d*86400+3600*a+3600))=(s',b')∧(b'=true→invA K s')∧aA.l3 (d*86400+3600*a) L m (m.length:Int) (i:Int) fr en K s P=some (b',((fr,()),(en,()),(clA K s',()),()),()):=by
   intro L hL he;obtain⟨s1,b1,g1,g2,g3⟩:=gL1 (K:=K) (fr:=fr) (en:=en) hL s hs;rw[he]at g1;rw[aA.l3_eq,g3];simp only[wW1]
   cases b1 with
   | false=>exact⟨s1,false,eI hsp g1,(fun q=>by cases q),rfl⟩
   | true=>
    obtain⟨s',b',h1,h2,h3⟩:=ih' s1 (g2 rfl);refine⟨s',b',iK hsp g1 h1,h2,?_⟩;rw[gX1,cond_false,w2];exact h3
  rw[dp (show(i:Int)<(m.length:Int) by omega),dp (show(0:Int)≤(i:Int) by omega),cond_true,cond_true,cond_true,w1,hP.er];by_cases c7:r.1=7
  ·obtain⟨L,k1,k2,k3⟩:=wL1 hP d a b hd ha hbm hF c7;rw[dp c7,cond_true,k3];simp only[wW1];exact fin L k1 (bR _ fr en k2.1 k2.2)
  ·have c6:r.1=6:=by omega
   obtain⟨k1,k2,k3⟩:=kN1 hP d a b hd ha hbm hF c6;rw[dn c7,cond_false,sD1 hP _ htT];simp only[wW1];by_cases cin:inP r.2.1 s0 pr (d*86400+3600*a+60*b)
   ·rw[dp cin,cond_true,hP.ec,nV1 (K:=K) hP.oc _ _ (by omega) m _ _ s,zW hP (aR hP _) (sN1 hP _)];simp only[wW1];exact fin _ k1 (bR _ fr en k2 (k3 cin))
   ·have e:memC (picP r.2.1 r.2.2.2.2.2.2.2.2.2.2.2.2.2.2.1 s0 F pr h m c) fr en (d*86400+3600*a+60*b) (d*86400+3600*a+60*b+60)=[]:=fF _ fr en fun x _ _ q1 q2 q=>by have q5:=q.1.2.2.1;unfold inP at cin q5;rw[hP.p6 c6 x q.1.1,show x/60=(d*86400+3600*a+60*b)/60 by omega,←hP.p6 c6 _ htT]at q5;exact cin q5
    rw[e,bY1]at hsp;obtain⟨s1,b1,g1,g2,g3⟩:=gL1 (K:=K) (fr:=fr) (en:=en) (L:=[]) (eX1 _) s hs;have g1:(s,true)=(s1,b1):=g1;obtain⟨rfl,rfl⟩:=Prod.mk.inj g1;obtain⟨s',b',h1,h2,h3⟩:=ih' s hs;refine⟨s',b',by rw[←hsp];exact h1,h2,?_⟩;rw[dn cin,cond_false,aA.l3a_eq,g3];simp only[wW1];rw[gX1,cond_false,w2];exact h3
theorem cV1 (d a:Int) (hd: -719162≤d∧d≤2932896) (ha:a∈h) (hF:F d=true) (hf:r.1=6∨r.1=7) (s:List Int) (hs:invA K s):
  ∃s' b,run (yA K) s (memC (picP r.2.1 r.2.2.2.2.2.2.2.2.2.2.2.2.2.2.1 s0 F pr h m c) fr en (d*86400+3600*a) (d*86400+3600*a+3600))=(s',b)∧(b=true→invA K s') ∧
   aA.f P (d*86400+3600*a) ((fr,()),(en,()),(clA K s,()),())=some (b,((fr,()),(en,()),(clA K s',()),()),()):=by
 obtain⟨s',b,h1,h2,h3⟩:=rL1 hP (K:=K) (fr:=fr) (en:=en) d a hd ha hF hf m.length 0 (by omega) (eX1 _) s hs
 have e:memC (picP r.2.1 r.2.2.2.2.2.2.2.2.2.2.2.2.2.2.1 s0 F pr h m c) fr en (d*86400+3600*a) (d*86400+3600*a+3600)=memC (fun x=>picP r.2.1 r.2.2.2.2.2.2.2.2.2.2.2.2.2.2.1 s0 F pr h m c x∧(x-(d*86400+3600*a))/60∈m.drop 0) fr en (d*86400+3600*a) (d*86400+3600*a+3600):=bJ _ fr en fun x _ _=>by
  rw[cY1];constructor
  ·rintro⟨q,q1,q2⟩;exact⟨⟨q,((sK hP d a x hd ha hF q1 q2).1 q.1).1⟩,q1,q2⟩
  ·rintro⟨⟨q,_⟩,q1⟩;exact⟨q,q1⟩
 refine⟨s',b,by rw[e];exact h1,h2,?_⟩;rw[sX1]at h3;rw[aA.f_eq,hP.em];exact h3
theorem gQ1 (d:Int) (hd: -719162≤d∧d≤2932896) (hF:F d=true) (hf:4<r.1):∀(n i:Nat),h.length-i=n→i≤h.length → ∀s:List Int,invA K s →
  ∃s' b,run (yA K) s (memC (fun x=>picP r.2.1 r.2.2.2.2.2.2.2.2.2.2.2.2.2.2.1 s0 F pr h m c x∧(x-d*86400)/3600∈h.drop i) fr en (d*86400) (d*86400+86400))=(s',b)∧(b=true→invA K s') ∧
   fA.l1 (d*86400) h (h.length:Int) (i:Int) fr en K s P=some (b,((fr,()),(en,()),(clA K s',()),()),()):=by
 have lh:=hP.oh.2.2;have hfr7:=hP.fr;intro n
 induction n with
 | zero=>
  intro i hn hi s hs;have e:i=h.length:=by omega
  subst e;refine⟨s,true,by rw[fF _ fr en (fun x _ _ _ _ q=>by rw[jY1]at q;exact absurd q.2 (by simp))];rfl,fun _=>hs,?_⟩;rw[fA.l1_eq];simp(disch:=omega)only[ss]
 | succ n ih=>
  intro i hn hi s hs;have hlt:i<h.length:=by omega
  have ih':=ih (i+1) (by omega) (by omega);rw[mY1,nY1]at ih';have hbm:=aH hlt;have hb0:=hP.oh.2.1 _ hbm;have hrd:Rise (h.drop i):=List.Pairwise.sublist (List.drop_sublist i h) hP.oh.1;rw[pB 0 hlt]at hrd ⊢;have hgb:h.getD (i:Int).toNat 0=h.getD i 0:=by rw[xY1]
  rw[fA.l1_eq,hgb];generalize h.getD i 0=a at hbm hb0 hrd ⊢;have hsp:=qZ (picP r.2.1 r.2.2.2.2.2.2.2.2.2.2.2.2.2.2.1 s0 F pr h m c) fr en (a:=a) (l:=h.drop (i+1)) (lo:=d*86400) (hi:=d*86400+86400) (a1:=d*86400+3600*a) (a2:=d*86400+3600*a+3600)
   (fun x=>(x-d*86400)/3600) hrd (fun x y q=>by omega) (fun x _=>by constructor <;> intro q <;> omega)
  have w1:w6 (d*86400+w6 ((3600:Int)*a))=d*86400+3600*a:=by rw[wr (x:=(3600:Int)*a) (by omega) (by omega),wr (by omega) (by omega)]
  have w2:w6 ((i:Int)+1)=(i:Int)+1:=wr (by omega) (by omega);have htT:inT (d*86400+3600*a):=by unfold inT;omega
  rw[dp (show(i:Int)<(h.length:Int) by omega),dp (show(0:Int)≤(i:Int) by omega),cond_true,cond_true,cond_true,w1,w2,hP.er];by_cases c5:r.1>5
  ·obtain⟨s1,b1,g1,g2,g3⟩:=cV1 hP (K:=K) (fr:=fr) (en:=en) d a hd hbm hF (by omega) s hs;rw[dp c5,cond_true,g3];simp only[wW1]
   cases b1 with
   | false=>exact⟨s1,false,eI hsp g1,(fun q=>by cases q),rfl⟩
   | true=>
    obtain⟨s',b',h1,h2,h3⟩:=ih' s1 (g2 rfl);refine⟨s',b',iK hsp g1 h1,h2,?_⟩;rw[gX1,cond_false];exact h3
  ·have c5':r.1=5:=by omega
   obtain⟨k1,k2,k3⟩:=dQ1 hP d a hd hbm hF c5';rw[dn c5,cond_false,sD1 hP _ htT];simp only[wW1];by_cases cin:inP r.2.1 s0 pr (d*86400+3600*a)
   ·obtain⟨s1,b1,g1,g2,g3⟩:=gL1 (K:=K) (fr:=fr) (en:=en) k1 s hs;rw[bR _ fr en k2 (k3 cin)]at g1;have hl2:=kI1 (K:=K) (fr:=fr) (en:=en) (P:=P) hP.ec hP.om hP.oc (d*86400) (d*86400+3600*a) (by omega) h (h.length:Int) (i:Int) s m.length 0 (by omega) (eX1 _) [] (eX1 _);rw[sX1,cY1,bY1]at hl2;have hpk:=zW hP (uK hP.om.1 hP.oc.1 hP.oc.2.1 (d*86400+3600*a)) (eZ1 (fZ hP _) (by decide));unfold lZ at hpk g3 k1 k2 k3;rw[dp cin,gX1,cond_false,hP.em,hl2,fA.l2_eq,dn (show ¬(m.length:Int)<(m.length:Int) by omega),cond_false,hpk];simp only[wW1];rw[g3];simp only[wW1]
    cases b1 with
    | false=>exact⟨s1,false,eI hsp g1,(fun q=>by cases q),rfl⟩
    | true=>
     obtain⟨s',b',h1,h2,h3⟩:=ih' s1 (g2 rfl);refine⟨s',b',iK hsp g1 h1,h2,?_⟩;rw[gX1,cond_false,w2];exact h3
   ·have e:memC (picP r.2.1 r.2.2.2.2.2.2.2.2.2.2.2.2.2.2.1 s0 F pr h m c) fr en (d*86400+3600*a) (d*86400+3600*a+3600)=[]:=fF _ fr en fun x _ _ q1 q2 q=>by have q5:=q.1.2.2.1;unfold inP at cin q5;rw[hP.p5 c5' x q.1.1,show x/3600=(d*86400+3600*a)/3600 by omega,←hP.p5 c5' _ htT]at q5;exact cin q5
    rw[e,bY1]at hsp;obtain⟨s',b',h1,h2,h3⟩:=ih' s hs;refine⟨s',b',by rw[←hsp];exact h1,h2,?_⟩;rw[dn cin,dY1,cond_true];exact h3
theorem hrsA (d:Int) (hd: -719162≤d∧d≤2932896) (hF:F d=true) (hf:4<r.1) (s:List Int) (hs:invA K s):
  ∃s' b,run (yA K) s (memC (picP r.2.1 r.2.2.2.2.2.2.2.2.2.2.2.2.2.2.1 s0 F pr h m c) fr en (d*86400) ((d+1)*86400))=(s',b)∧(b=true→invA K s') ∧
   fA.f P (d*86400) ((fr,()),(en,()),(clA K s,()),())=some (b,((fr,()),(en,()),(clA K s',()),()),()):=by
 obtain⟨s',b,h1,h2,h3⟩:=gQ1 hP (K:=K) (fr:=fr) (en:=en) d hd hF hf h.length 0 (by omega) (eX1 _) s hs
 have e:memC (picP r.2.1 r.2.2.2.2.2.2.2.2.2.2.2.2.2.2.1 s0 F pr h m c) fr en (d*86400) ((d+1)*86400)=memC (fun x=>picP r.2.1 r.2.2.2.2.2.2.2.2.2.2.2.2.2.2.1 s0 F pr h m c x∧(x-d*86400)/3600∈h.drop 0) fr en (d*86400) (d*86400+86400):=bJ _ fr en fun x _ _=>by
  rw[cY1];constructor
  ·rintro⟨q,q1,q2⟩;have:=((yB1 hP.om.2.1 hP.oc.2.1 _).1 q.1.2.1).1;rw[show x%86400/3600=(x-d*86400)/3600 by omega]at this;exact⟨⟨q,this⟩,q1,by omega⟩
  ·rintro⟨⟨q,_⟩,q1,q2⟩;exact⟨q,q1,by omega⟩
 refine⟨s',b,by rw[e];exact h1,h2,?_⟩;rw[sX1]at h3;rw[fA.f_eq,hP.eh];exact h3
theorem nN1 (hf:4<r.1) (D:Int) (hD:D≤2932897):∀(n:Nat) (d:Int),(D+1-d).toNat=n → -800000≤d → ∀s:List Int,invA K s →
  ∃s' b,run (yA K) s (memC (picP r.2.1 r.2.2.2.2.2.2.2.2.2.2.2.2.2.2.1 s0 F pr h m c) fr en (d*86400) ((D+1)*86400))=(s',b)∧qA.l1 D d fr en K s P=some (((fr,()),(en,()),(clA K s',()),()),()):=by
 intro n
 induction n with
 | zero=>
  intro d hn hd s hs;refine⟨s,true,by rw[fF _ fr en (fun x _ _ h1 h2=>by omega)];rfl,?_⟩;rw[qA.l1_eq,dn (show ¬d≤D by omega),cond_false]
 | succ n ih=>
  intro d hn hd s hs;have hdD:d≤D:=by omega
  have hw:w6 (d+1)=d+1:=wr (by omega) (by omega);have hw2:w6 (d*86400)=d*86400:=wr (by omega) (by omega);have hsp:=sN (picP r.2.1 r.2.2.2.2.2.2.2.2.2.2.2.2.2.2.1 s0 F pr h m c) fr en (a:=d*86400) (b:=(d+1)*86400) (c:=(D+1)*86400) (by omega) (by omega);have ih':=ih (d+1) (by omega) (by omega);rw[qA.l1_eq,dp hdD,cond_true,iB.f_eq,hP.fits d];simp only[wW1]
  cases hF:F d with
  | false=>
   rw[fF _ fr en (fun x _ _ q1 q2 q=>by
    have q:=q.1.2.2.2;rw[show x/86400=d by omega,hF]at q
    cases q),bY1]at hsp
   obtain⟨s',b,h1,h2⟩:=ih' s hs;refine⟨s',b,by rw[←hsp];exact h1,?_⟩;rw[cond_false,qA.l2_eq,cond_false,hw];exact h2
  | true=>
   obtain⟨s1,b1,g1,g2,g3⟩:=hrsA hP (K:=K) (fr:=fr) (en:=en) d (hP.fin d hF) hF hf s hs;rw[cond_true,hw2,g3];simp only[wW1];rw[qA.l2_eq]
   cases b1 with
   | false=>exact⟨s1,false,eI hsp g1,rfl⟩
   | true=>
    obtain⟨s',b,h1,h2⟩:=ih' s1 (g2 rfl);refine⟨s',b,iK hsp g1 h1,?_⟩;rw[gX1,cond_false,hw];exact h2
include hfr hen
theorem vV1 (hf:4<r.1) (hen2:en≤253402300800) (s:List Int) (hs:invA K s):
  ∃s' b,run (yA K) s (memL (picP r.2.1 r.2.2.2.2.2.2.2.2.2.2.2.2.2.2.1 s0 F pr h m c) fr en)=(s',b)∧qA.f P fr en ((fr,()),(en,()),(clA K s,()),())=some (((fr,()),(en,()),(clA K s',()),()),()):=by
 have hd1:=(wF fr (by omega) (by omega)).1;have hd2:=(wF en (by omega) (by omega)).1;obtain⟨s',b,h1,h2⟩:=nN1 hP (K:=K) (fr:=fr) (en:=en) hf (en/86400) (by omega) _ (fr/86400) rfl (by omega) s hs;have e:memC (picP r.2.1 r.2.2.2.2.2.2.2.2.2.2.2.2.2.2.1 s0 F pr h m c) fr en fr en=memC (picP r.2.1 r.2.2.2.2.2.2.2.2.2.2.2.2.2.2.1 s0 F pr h m c) fr en (fr/86400*86400) ((en/86400+1)*86400):=bJ _ fr en fun x q1 q2=>⟨fun q=>⟨q.1,by omega,by omega⟩,fun q=>⟨q.1,q1,q2⟩⟩
 rw[←bX,e];refine⟨s',b,h1,?_⟩;rw[qA.f_eq,hd1,hd2];exact h2
omit hfr hen
theorem oV1 (hu:r.2.2.2.2.2.1=true→inT r.2.2.2.1) (f0 e0:Int) (hf0: -63000000000≤f0∧f0≤300000000000) (he0: -63000000000≤e0∧e0≤253402300799) (s:List Int) (hs:invA K s):
  lB.f P f0 e0 (clA K s)=some (clA K (run (yA K) s (memL (belP r.2.1 r.2.2.2.1 r.2.2.2.2.2.1 r.2.2.2.2.2.2.2.2.2.2.2.2.2.2.1 s0 F pr h m c) f0 e0)).1,()):=by
 have hS:=hP.inS;unfold inT at hS;have hgo:∀fr en:Int,s0≤fr → -63000000000≤fr∧fr≤300000000000 → -63000000000≤en∧en≤253402300800→memL (picP r.2.1 r.2.2.2.2.2.2.2.2.2.2.2.2.2.2.1 s0 F pr h m c) fr en=memL (belP r.2.1 r.2.2.2.1 r.2.2.2.2.2.1 r.2.2.2.2.2.2.2.2.2.2.2.2.2.2.1 s0 F pr h m c) f0 e0 →
   lB.l1 K s P fr en=some (clA K (run (yA K) s (memL (belP r.2.1 r.2.2.2.1 r.2.2.2.2.2.1 r.2.2.2.2.2.2.2.2.2.2.2.2.2.2.1 s0 F pr h m c) f0 e0)).1,()):=by
  intro fr en h1 h2 h3 e;rw[lB.l1_eq,hP.er];by_cases c5:r.1<5
  ·obtain⟨s',b,g1,g2⟩:=xU1 hP (K:=K) h2 (by omega) (by omega) h1 h3.2 s hs;rw[dp c5,cond_true,g2];simp only[wW1];rw[←e,g1]
  ·obtain⟨s',b,g1,g2⟩:=vV1 hP (K:=K) h2 (by omega) (by omega) h3.2 s hs;rw[dn c5,cond_false,g2];simp only[wW1];rw[←e,g1]
 rw[lB.f_eq,hP.er,hP.es,pO1]
 cases hen:r.2.2.2.2.2.1 with
 | false=>
  rw[hen]at hgo;rw[cond_false];refine hgo _ _ (by omega) (by omega) (by omega) (sJ1 _ (wL _ _ _) fun x=>?_);rw[fM,sK1];constructor
  ·rintro⟨q,q1,q2⟩;exact⟨⟨q,by omega,(fun z=>by cases z)⟩,by omega,q2⟩
  ·rintro⟨⟨q,q1,_⟩,q2,q3⟩;exact⟨q,by omega,q3⟩
 | true=>
  have hu:=hu hen;unfold inT at hu;rw[hen]at hgo;rw[cond_true,wr (x:=r.2.2.2.1+1) (by omega) (by omega),dJ1];refine hgo _ _ (by omega) (by omega) (by omega) (sJ1 _ (wL _ _ _) fun x=>?_);rw[fM,sK1];constructor
  ·rintro⟨q,q1,q2⟩;exact⟨⟨q,by omega,fun _=>by omega⟩,by omega,by omega⟩
  ·rintro⟨⟨q,q1,q4⟩,q2,q3⟩;have:=q4 rfl;exact⟨q,by omega,by omega⟩
end
noncomputable def belR (r:Rl) (s:Int):Int→Prop:=
 belP r.2.1 r.2.2.2.1 r.2.2.2.2.2.1 r.2.2.2.2.2.2.2.2.2.2.2.2.2.2.1 s (dS r.1 r.2.2.2.2.1 r.2.2.2.2.2.2.1 r.2.2.2.2.2.2.2.1 r.2.2.2.2.2.2.2.2.1 r.2.2.2.2.2.2.2.2.2.1 r.2.2.2.2.2.2.2.2.2.2.1 s) (per r.1 r.2.2.2.2.1 r.2.2.2.2.2.2.2.1) (oZ r.1 r.2.2.2.2.2.2.2.2.2.2.2.1 s) (wK1 r.1 r.2.2.2.2.2.2.2.2.2.2.2.2.1 s) (uK1 r.1 r.2.2.2.2.2.2.2.2.2.2.2.2.2.1 s)
noncomputable def memR (r:Rl) (s e:Int):List Int:=memL (belR r s) s e
noncomputable def LS (r:Rl) (s e:Int):List Int:=if r.2.2.1>0 then(memR r s e).take r.2.2.1.toNat else memR r s e
def okE (s e:Int):Prop:=inT s∧inT e∧(s<e→e-s≤316224000)
theorem lJ1 (r:Rl) (hr:yK r) (hm:nA.f r=some (true,())) (s:Int) (hs:inT s):∃P:PlT,vC.f r s=some (P,true,()) ∧
  PlanOK P r s (dS r.1 r.2.2.2.2.1 r.2.2.2.2.2.2.1 r.2.2.2.2.2.2.2.1 r.2.2.2.2.2.2.2.2.1 r.2.2.2.2.2.2.2.2.2.1 r.2.2.2.2.2.2.2.2.2.2.1 s) (per r.1 r.2.2.2.2.1 r.2.2.2.2.2.2.2.1) (oZ r.1 r.2.2.2.2.2.2.2.2.2.2.2.1 s) (wK1 r.1 r.2.2.2.2.2.2.2.2.2.2.2.2.1 s) (uK1 r.1 r.2.2.2.2.2.2.2.2.2.2.2.2.2.1 s):=by
 obtain⟨f,iv,ct,un,wkst,en,mo,we,yd,md,dy,ho,mi,se,po,⟨⟩⟩:=r;exact eQ1 f iv ct un wkst en mo we yd md dy ho mi se po s hr hm hs
theorem pQ1 {r:Rl} {s e:Int} {P:PlT} (hMk:vC.f r s=some (P,true,())) (h:okE s e):tB.f r s e=some (P,true,()):=by
 obtain⟨h1,h2,h3⟩:=h;rw[tB.f_eq,hMk,(cU e).1];unfold inT at h1 h2;by_cases c:e>s
 ·simp(disch:=omega)only[ss,tB.l1_eq]
 ·simp(disch:=omega)only[ss,tB.l1_eq]
theorem uI1 {r:Rl} {s e:Int} {P:PlT} {b:Bool} (hMk:vC.f r s=some (P,b,())) (hb:b=true→inT s) (h:¬(b=true∧okE s e)):∃Q,tB.f r s e=some (Q,false,()):=by
 rw[tB.f_eq,hMk,(cU e).1];simp only[wW1]
 cases b with
 | false=>exact⟨_,by rw[dY1,cond_true,tB.l1_eq,cond_true]⟩
 | true=>
  have h1:=hb rfl;rw[gX1,cond_false];by_cases c2:inT e
  ·unfold inT at h1 c2;have c3:s<e∧e-s>316224000:=by
    refine Classical.byContradiction fun q=>h ⟨rfl,h1,c2,fun z=>?_⟩
    omega
   rw[dp c2,gX1,cond_false,dp (show e>s from c3.1),cond_true,wr (by omega) (by omega),dp c3.2,tB.l1_eq,cond_true];exact⟨_,rfl⟩
  ·unfold inT at c2;rw[dn c2,dY1,cond_true,tB.l1_eq,cond_true];exact⟨_,rfl⟩
theorem rG1 {r:Rl} (hr:yK r) (hm:nA.f r=some (true,())):(0≤r.2.2.1∧r.2.2.1≤4096)∧(r.2.2.2.2.2.1=true→inT r.2.2.2.1)∧(1≤r.2.1∧r.2.1≤1000)∧(1≤r.1∧r.1≤7):=by have hp:=(kT1 hr hm).1;unfold numP at hp;exact⟨⟨hp.1.2.2.2.2.1,hp.1.2.2.2.2.2.1⟩,fun q=>(hp.2.1 q).1,⟨hp.1.2.2.1,hp.1.2.2.2.1⟩,⟨hp.1.1,hp.1.2.1⟩⟩
section
variable {r : Rl} {s e : Int} (hr : yK r) (hm : nA.f r = some (true, ())) (ho : okE s e)
include hr hm ho
theorem nG1 {P:PlT} (hMk:vC.f r s=some (P,true,())) (M:Int) (h1:1≤M) (h2:M≤100000):dC.f P r s e M=some ((memR r s e).take (if r.2.2.1>0 then min M r.2.2.1 else M).toNat,()):=by
 obtain⟨P',hMk',hP⟩:=lJ1 r hr hm s ho.1;have e1:P'=P:=by rw[hMk]at hMk';exact(congrArg Prod.fst (vX1 hMk')).symm
 subst e1;have hn:=rG1 hr hm;obtain⟨g1,g2,g3⟩:=ho;unfold inT at g1 g2;have key:∀K:Int,1≤K→K≤100000→dC.l1 s e P' K []=some ((memR r s e).take K.toNat,()):=by intro K k1 k2;have hw:=oV1 hP (K:=K) hn.2.1 s e (by omega) (by omega) [] (by unfold invA;simp;omega);have hrun:=pU1 K.toNat (memR r s e) [] (by simp;omega);rw[show((K.toNat:Nat):Int)=K by omega]at hrun;rw[dC.l1_eq];show((lB.f P' s e (clA K [])).bind fun t1=>some (t1.1.1.1,()))=_;rw[hw];simp only[wW1];show some ((run (yesF K) [] (memR r s e)).1,())=_;rw[hrun];rfl
 rw[dC.f_eq];by_cases c:r.2.2.1>0
 ·rw[dp c,cond_true,if_pos c,dJ1];exact key _ (by omega) (by omega)
 ·rw[dn c,cond_false,if_neg c];exact key _ h1 h2
theorem lS1 (most:Int) (h1:1≤most) (h2:most≤4096):aE.f r s e most=some (if((LS r s e).length:Int)>most then([],10,())else(LS r s e,0,())):=by
 obtain⟨P,hMk,hP⟩:=lJ1 r hr hm s ho.1;have hn:=rG1 hr hm;have hF:=nG1 hr hm ho hMk (most+1) (by omega) (by omega);have hw:w6 (most+1)=most+1:=wr (by omega) (by omega);rw[aE.f_eq,pQ1 hMk ho];simp only[wW1];rw[gX1,cond_false,dn (show ¬most<1 by omega),cond_false,dn (show ¬most>4096 by omega),cond_false,hw,hF];simp only[wW1];unfold LS;generalize memR r s e=M;by_cases c:r.2.2.1>0
 ·rw[if_pos c,if_pos c];by_cases c2:((M.take r.2.2.1.toNat).length:Int)>most
  ·rw[if_pos c2,dp,cond_true];rw[mX1]at c2 ⊢;omega
  ·have e2:M.take (min (most+1) r.2.2.1).toNat=M.take r.2.2.1.toNat:=by
    rw[mX1]at c2;by_cases c3:r.2.2.1≤most
    ·rw[show min (most+1) r.2.2.1=r.2.2.1 by omega]
    ·rw[qX1 (by omega),qX1 (by omega)]
   rw[if_neg c2,e2,dn c2,cond_false]
 ·rw[if_neg c,if_neg c];by_cases c2:(M.length:Int)>most
  ·rw[if_pos c2,dp,cond_true];rw[mX1];omega
  ·rw[if_neg c2,qX1 (by omega),dn c2,cond_false]
end
theorem nU1 {r:Rl} {s e:Int} {bm:Bool} (hr:yK r) (hm:nA.f r=some (bm,())) (h:¬(bm=true∧okE s e)):(∀most,aE.f r s e most=some ([],1,()))∧True:=by
 have hQ:∃Q,tB.f r s e=some (Q,false,()):=by
  by_cases c:bm=true∧inT s
  ·obtain⟨rfl,hs⟩:=c;obtain⟨P,hMk,hP⟩:=lJ1 r hr hm s hs;exact uI1 hMk (fun _=>hs) h
  ·obtain⟨P,hMk⟩:=hQ1 r s bm hm c;exact uI1 hMk (fun q=>by cases q) (fun q=>by cases q.1)
 obtain⟨Q,hQ⟩:=hQ;constructor
 ·intro most;rw[aE.f_eq,hQ];rfl
 ·trivial
theorem lN1 (r:Rl) (hr:yK r) (s e most:Int) (h1:1≤most) (h2:most≤4096):∃L cd,aE.f r s e most=some (L,cd,())∧(¬cd=0→L=[]) ∧
  (cd=0→nA.f r=some (true,())∧okE s e∧L=LS r s e∧(L.length:Int)≤most)∧(nA.f r=some (true,())→okE s e→((LS r s e).length:Int)≤most→cd=0):=by
 obtain⟨bm,hm⟩:=bE1 r hr;by_cases c:bm=true∧okE s e
 ·obtain⟨rfl,ho⟩:=c;have hl:=lS1 hr hm ho most h1 h2;by_cases c2:((LS r s e).length:Int)>most
  ·rw[if_pos c2]at hl;exact⟨[],10,hl,fun _=>rfl,fun q=>by omega,fun _ _ q=>by omega⟩
  ·rw[if_neg c2]at hl;exact⟨_,0,hl,fun q=>absurd rfl q,fun _=>⟨hm,ho,rfl,by omega⟩,fun _ _ _=>rfl⟩
 ·have hl:=(nU1 hr hm c).1 most;refine⟨[],1,hl,fun _=>rfl,fun q=>by omega,fun q q1=>?_⟩;rw[hm]at q;exact absurd ⟨congrArg Prod.fst (vX1 q),q1⟩ c
theorem uL1 {r:Rl} {s e t:Int}:t∈memR r s e↔belR r s t∧t<e:=by unfold memR;rw[fM];exact⟨fun q=>⟨q.1,q.2.2⟩,fun q=>⟨q.1,q.1.2.1,q.2⟩⟩
theorem bT1 {r:Rl} {s e t:Int} (h:t∈LS r s e):belR r s t∧s≤t∧t<e:=by
 have h:t∈memR r s e:=by
  unfold LS at h;split at h
  ·exact List.mem_of_mem_take h
  ·exact h
 have:=uL1.1 h;exact⟨this.1,this.1.2.1,this.2⟩
def zR :Rl:=(0,0,0,0,0,false,[],[],[],[],[],[],[],[],[],())
theorem eqI2 (a b:List Int) (ha:a.length≤1000000):rA.f a b=some (decide (a=b),()):=by
 rw[rA.f_eq];by_cases hl:a.length=b.length
 ·have key:∀(k i:Nat),a.length-i=k→i≤a.length→rA.l1 a b a.length i=some (decide (a.drop i=b.drop i),()):=by
   intro k
   induction k with
   | zero=>
    intro i hk hia;have e1:a.drop i=[]:=xZ1 (by omega);have e2:b.drop i=[]:=xZ1 (by omega);rw[rA.l1_eq,e1,e2];simp(disch:=omega)only[ss]
   | succ k ih=>
    intro i hk hia;have h1:i<a.length:=by omega
    have h2:i<b.length:=by omega
    have:=ih (i+1) (by omega) (by omega);rw[rA.l1_eq,pB 0 h1,pB 0 h2];by_cases c:a.getD i 0=b.getD i 0
    ·have e:decide (a.getD i 0::a.drop (i+1)=b.getD i 0::b.drop (i+1))=decide (a.drop (i+1)=b.drop (i+1)):=decide_eq_decide.2 ⟨fun h=>(List.cons.inj h).2,fun h=>by rw[c,h]⟩;rw[e];simp(disch:=omega)only[ss];exact this
    ·have e:decide (a.getD i 0::a.drop (i+1)=b.getD i 0::b.drop (i+1))=false:=dn fun h=>c (List.cons.inj h).1
     rw[e];simp(disch:=omega)only[ss]
  have:=key _ 0 rfl (eX1 _);rw[sX1,cY1,cY1]at this;simp(disch:=omega)only[ss,this]
 ·rw[dn (show ¬a=b from fun h=>hl (by rw[h]))];simp(disch:=omega)only[ss]
theorem eqD2 (a b:List Dy) (ha:a.length≤1000000):tA.f a b=some (decide (a=b),()):=by
 rw[tA.f_eq];by_cases hl:a.length=b.length
 ·have key:∀(k i:Nat),a.length-i=k→i≤a.length→tA.l1 a b a.length i=some (decide (a.drop i=b.drop i),()):=by
   intro k
   induction k with
   | zero=>
    intro i hk hia;have e1:a.drop i=[]:=xZ1 (by omega);have e2:b.drop i=[]:=xZ1 (by omega);rw[tA.l1_eq,e1,e2];simp(disch:=omega)only[ss]
   | succ k ih=>
    intro i hk hia;have h1:i<a.length:=by omega
    have h2:i<b.length:=by omega
    have:=ih (i+1) (by omega) (by omega);rw[tA.l1_eq,pB ((0,0,()):Dy) h1,pB ((0,0,()):Dy) h2];generalize hx:a.getD i ((0,0,()):Dy)=x;generalize hy:b.getD i ((0,0,()):Dy)=y;have hx':a.getD i ((0,0,()):Int×Int×Unit)=x:=hx;have hy':b.getD i ((0,0,()):Int×Int×Unit)=y:=hy;obtain⟨x1,x2,⟨⟩⟩:=x;obtain⟨y1,y2,⟨⟩⟩:=y;by_cases c:x1=y1∧x2=y2
    ·obtain⟨rfl,rfl⟩:=c;have e:decide ((x1,x2,())::a.drop (i+1)=(x1,x2,())::b.drop (i+1))=decide (a.drop (i+1)=b.drop (i+1)):=decide_eq_decide.2 ⟨fun h=>(List.cons.inj h).2,fun h=>by rw[h]⟩;rw[e];simp(disch:=omega)only[ss,hx',hy'];exact this
    ·have e:decide ((x1,x2,())::a.drop (i+1)=(y1,y2,())::b.drop (i+1))=false:=dn fun h=>c (by have:=(List.cons.inj h).1;cases this;exact⟨rfl,rfl⟩)
     rw[e];have e2:(decide (x1=y1)&&decide (x2=y2))=false:=by
      by_cases c1:x1=y1
      ·rw[dn (show ¬x2=y2 from fun h=>c ⟨c1,h⟩),Bool.and_false]
      ·rw[dn c1,Bool.false_and]
     simp(disch:=omega)only[ss,hx',hy',e2]
  have:=key _ 0 rfl (eX1 _);rw[sX1,cY1,cY1]at this;simp(disch:=omega)only[ss,this]
 ·rw[dn (show ¬a=b from fun h=>hl (by rw[h]))];simp(disch:=omega)only[ss]
theorem pF1 (r q:Rl) (hr:yK r):yC (gC.f r q) (r=q):=by
 unfold yK wU at hr;obtain⟨f,iv,ct,un,wk,en,mo,we,yd,md,dy,ho,mi,se,po,⟨⟩⟩:=r;obtain⟨f',iv',ct',un',wk',en',mo',we',yd',md',dy',ho',mi',se',po',⟨⟩⟩:=q;dsimp only at hr;obtain⟨h1,h2,h3,h4,h5,h6,h7,h8,h9⟩:=hr;have no:∀{p:Prop},¬p→yC (some (false,())) p:=fun h=>⟨false,rfl,by simp[h]⟩
 rw[gC.f_eq];dsimp only;by_cases c:f=f'
 ·by_cases c1:iv=iv'
  ·by_cases c2:ct=ct'
   ·by_cases c3:un=un'
    ·by_cases c4:wk=wk'
     ·by_cases c5:en=en'
      ·subst c c1 c2 c3 c4 c5;simp(disch:=omega)only[ss,beq_self_eq_true];rw[gC.l1_eq,cond_false];dsimp only;rw[eqI2 mo mo' (by omega),eqI2 we we' (by omega),eqI2 yd yd' (by omega),eqI2 md md' (by omega),eqD2 dy dy' (by omega),eqI2 ho ho' (by omega),eqI2 mi mi' (by omega),eqI2 se se' (by omega),eqI2 po po' (by omega)];simp only[wW1];by_cases d1:mo=mo'
       ·by_cases d2:we=we'
        ·by_cases d3:yd=yd'
         ·by_cases d4:md=md'
          ·by_cases d5:dy=dy'
           ·by_cases d6:ho=ho'
            ·by_cases d7:mi=mi'
             ·by_cases d8:se=se'
              ·subst d1 d2 d3 d4 d5 d6 d7 d8;simp only[decide_true,cond_true];refine⟨_,rfl,?_⟩;rw[decide_eq_true_iff];exact⟨fun h=>by rw[h],fun h=>by cases h;rfl⟩
              ·simp only[dp d1,dp d2,dp d3,dp d4,dp d5,dp d6,dp d7,dn d8,cond_true,cond_false];exact no fun h=>d8 (by cases h;rfl)
             ·simp only[dp d1,dp d2,dp d3,dp d4,dp d5,dp d6,dn d7,cond_true,cond_false];exact no fun h=>d7 (by cases h;rfl)
            ·simp only[dp d1,dp d2,dp d3,dp d4,dp d5,dn d6,cond_true,cond_false];exact no fun h=>d6 (by cases h;rfl)
           ·simp only[dp d1,dp d2,dp d3,dp d4,dn d5,cond_true,cond_false];exact no fun h=>d5 (by cases h;rfl)
          ·simp only[dp d1,dp d2,dp d3,dn d4,cond_true,cond_false];exact no fun h=>d4 (by cases h;rfl)
         ·simp only[dp d1,dp d2,dn d3,cond_true,cond_false];exact no fun h=>d3 (by cases h;rfl)
        ·simp only[dp d1,dn d2,cond_true,cond_false];exact no fun h=>d2 (by cases h;rfl)
       ·simp only[dn d1,cond_false];exact no fun h=>d1 (by cases h;rfl)
      ·have e:(en==en')=false:=by cases en <;> cases en' <;> first | rfl | exact absurd rfl c5
       simp(disch:=omega)only[ss,e,gC.l1_eq];exact no fun h=>c5 (by cases h;rfl)
     ·simp(disch:=omega)only[ss,gC.l1_eq];exact no fun h=>c4 (by cases h;rfl)
    ·simp(disch:=omega)only[ss,gC.l1_eq];exact no fun h=>c3 (by cases h;rfl)
   ·simp(disch:=omega)only[ss,gC.l1_eq];exact no fun h=>c2 (by cases h;rfl)
  ·simp(disch:=omega)only[ss,gC.l1_eq];exact no fun h=>c1 (by cases h;rfl)
 ·simp(disch:=omega)only[ss,gC.l1_eq];exact no fun h=>c (by cases h;rfl)
abbrev Mt :Type:=Int×Int×Int×Bool×Rl×List Int×List Int×Unit
def innP (t:Int):Prop:= -62104060800≤t∧t<253370764800
theorem sO (y:Int) (h:1≤y∧y≤9999):oE.f y=some (fst_ y*86400,()):=by rw[oE.f_eq,xV,if_pos h];rfl
theorem jV1 :oE.f 2=some (-62104060800,()):=sO 2 (by omega)
theorem lV1 :oE.f 9999=some (253370764800,()):=sO 9999 (by omega)
theorem eU1 :oE.f 3=some (-62072524800,()):=sO 3 (by omega)
theorem bU1 :oE.f 9998=some (253339228800,()):=sO 9998 (by omega)
theorem dU (t:Int):yC (xG.f t) (innP t):=by
 unfold innP;rw[xG.f_eq,jV1,lV1];by_cases c:t ≥ -62104060800
 ·simp(disch:=omega)only[ss];exact⟨_,rfl,by rw[decide_eq_true_eq];omega⟩
 ·simp(disch:=omega)only[ss];exact⟨_,rfl,by simp;omega⟩
def okM (l:List Int) (j:Nat):Prop:=innP (l.getD j 0)∧adjI l j
def lQ (l:List Int):Prop:=(∀j,j<l.length→okM l j)∧l.length≤64
theorem cO1 (l:List Int) (hl:l.length≤1000000):∀(k i:Nat),l.length-i=k→i≤l.length →
  yC (jB.l1 l l (l.length:Int) (i:Int)) ((∀j,i≤j→j<l.length→okM l j)∧l.length≤64):=by
 intro k
 induction k with
 | zero=>
  intro i hk hil;rw[jB.l1_eq];simp(disch:=omega)only[ss];refine⟨_,rfl,?_⟩;rw[decide_eq_true_eq];exact⟨fun h=>⟨fun j h1 h2=>by omega,by omega⟩,fun h=>by omega⟩
 | succ k ih=>
  intro i hk hil;have hlt:i<l.length:=by omega
  have step:okM l i→yC (jB.l2 l l (l.length:Int) (i:Int) false) ((∀j,i≤j→j<l.length→okM l j)∧l.length≤64):=fun h=>by
   rw[jB.l2_eq];simp(disch:=omega)only[ss];refine(ih (i+1) (by omega) (by omega)).iff ⟨fun q=>⟨fun j h1 h2=>?_,q.2⟩,fun q=>⟨fun j h1 h2=>q.1 j (by omega) h2,q.2⟩⟩;by_cases e:j=i
   ·subst e;exact h
   ·exact q.1 j (by omega) h2
  have stop:¬okM l i→yC (jB.l2 l l (l.length:Int) (i:Int) true) ((∀j,i≤j→j<l.length→okM l j)∧l.length≤64):=fun h=>by rw[jB.l2_eq,cond_true];exact⟨false,rfl,by simp;intro q;exact absurd (q i (iX1 _) hlt) h⟩
  obtain⟨b,hb,hi⟩:=dU (l.getD i 0);rw[jB.l1_eq];simp(disch:=omega)only[ss,hb]
  cases b with
  | false=> 
   rw[dY1,cond_true];exact stop fun q=>by have:=hi.2 q.1;cases this
  | true=>
   have hin:=hi.1 rfl;rw[gX1,cond_false];by_cases h0:i=0
   ·simp(disch:=omega)only[ss];exact step ⟨hin,fun q=>by omega⟩
   ·simp(disch:=omega)only[ss];by_cases c:l.getD i 0≤l.getD (i-1) 0
    ·rw[dp c];exact stop fun q=>by have:=q.2 (by omega);omega
    ·rw[dn c];exact step ⟨hin,fun _=>by omega⟩
theorem dT (l:List Int) (hl:l.length≤1000000):yC (jB.f l) (lQ l):=by have:=cO1 l hl _ 0 rfl (eX1 _);rw[sX1]at this;rw[jB.f_eq];exact this.iff ⟨fun q=>⟨fun j hj=>q.1 j (eX1 _) hj,q.2⟩,fun q=>⟨fun j _ hj=>q.1 j hj,q.2⟩⟩
def mayM (m:Mt):Prop:=0≤m.1∧m.1<16∧innP m.2.1∧1≤m.2.2.1∧m.2.2.1≤2678400∧lQ m.2.2.2.2.2.1∧lQ m.2.2.2.2.2.2.1 ∧
 (m.2.2.2.1=true→nA.f m.2.2.2.2.1=some (true,()))∧(m.2.2.2.1=false→m.2.2.2.2.1=zR)
def mG1 (m:Mt):Prop:=yK m.2.2.2.2.1∧m.2.2.2.2.2.1.length≤1000000∧m.2.2.2.2.2.2.1.length≤1000000
theorem uT1 (m:Mt) (h:mG1 m):yC (sC.f m) (mayM m):=by
 obtain⟨z,st,du,rc,r,da,ex,⟨⟩⟩:=m;obtain⟨h1,h2,h3⟩:=h;dsimp only at h1 h2 h3
 have stop:¬mayM (z,st,du,rc,r,da,ex,())→yC (sC.l1 true (z,st,du,rc,r,da,ex,())) (mayM (z,st,du,rc,r,da,ex,())):=fun q=>by rw[sC.l1_eq,cond_true];exact⟨false,rfl,by simp[q]⟩
 obtain⟨b1,g1,k1⟩:=dU st;obtain⟨b2,g2,k2⟩:=dT da h2;obtain⟨b3,g3,k3⟩:=dT ex h3;unfold mayM at stop ⊢;dsimp only at stop ⊢;rw[sC.f_eq];dsimp only;by_cases c1:z<0
 ·rw[dp c1];exact stop fun q=>by omega
 rw[dn c1,cond_false];by_cases c2:z≥16
 ·rw[dp c2];exact stop fun q=>by omega
 rw[dn c2,cond_false,g1]
 cases b1 with
 | false=>exact stop fun q=>by have:=k1.2 q.2.2.1;cases this
 | true=>
 simp(disch:=omega)only[ss];by_cases c3:du<1
 ·rw[dp c3];exact stop fun q=>by omega
 rw[dn c3,cond_false];by_cases c4:du>2678400
 ·rw[dp c4];exact stop fun q=>by omega
 rw[dn c4,cond_false,g2]
 cases b2 with
 | false=>exact stop fun q=>by have:=k2.2 q.2.2.2.2.2.1;cases this
 | true=>
 simp(disch:=omega)only[ss,g3]
 cases b3 with
 | false=>exact stop fun q=>by have:=k3.2 q.2.2.2.2.2.2.1;cases this
 | true=>
 rw[gX1,sC.l1_eq,cond_false];dsimp only;have base:0≤z∧z<16∧innP st∧1≤du∧du≤2678400∧lQ da∧lQ ex:=⟨by omega,by omega,k1.1 rfl,by omega,by omega,k2.1 rfl,k3.1 rfl⟩
 obtain⟨i1,i2,i3,i4,i5,i6,i7⟩:=base
 cases rc with
 | true=>
  obtain⟨b,hb⟩:=bE1 r h1;rw[cond_true,hb];refine⟨b,rfl,fun e=>⟨i1,i2,i3,i4,i5,i6,i7,(fun _=>by rw[←e]),(fun e=>by cases e)⟩,fun q=>?_⟩;have:=q.2.2.2.2.2.2.2.1 rfl;exact congrArg Prod.fst (vX1 this)
 | false=>
  obtain⟨b,hb,hq⟩:=pF1 r zR h1;have hb:gC.f r (0,0,0,0,0,false,[],[],[],[],[],[],[],[],[],())=some (b,()):=hb;rw[cond_false,hb];exact⟨b,rfl,fun e=>⟨i1,i2,i3,i4,i5,i6,i7,(fun e=>by cases e),fun _=>hq.1 e⟩,fun q=>hq.2 (q.2.2.2.2.2.2.2.2 rfl)⟩
theorem jP {l:List Int} (h:lQ l):l.length≤64∧(∀j,j<l.length→adjI l j) ∧ ∀t∈l,innP t:=by refine⟨h.2,fun j hj=>(h.1 j hj).2,fun t ht=>?_⟩;obtain⟨j,hj,rfl⟩:=sZ1 ht;have:=(h.1 j hj).1;rwa[aX1,dX1 hj]at this
theorem zF1 (m:Int):pH.f m=some (decide (1≤m∧m≤12),()):=by
 rw[pH.f_eq];by_cases c:1≤m
 ·by_cases c2:m≤12
  ·simp(disch:=omega)only[ss,ge_iff_le]
  ·simp(disch:=omega)only[ss,ge_iff_le]
 ·simp(disch:=omega)only[ss,ge_iff_le]
def nth1 (y m w:Int):Int:=1+(w-(fst_ y+cum y m+3))%7
theorem kB1 (y m w:Int):1≤nth1 y m w∧nth1 y m w≤7:=by unfold nth1;omega
theorem fL1 (y m:Int) (h1:1≤m) (h2:m≤12):28≤mlen y m∧mlen y m≤31:=by
 have hb:=wH y m;refine⟨?_,hb.2.1⟩;unfold mlen;split
 ·split <;> omega
 ·split
  ·omega
  ·rw[if_pos ⟨h1,h2⟩];omega
theorem wO1 (y m k w:Int) (hy:1≤y∧y≤9999) (hm:1≤m∧m≤12) (hk:1≤k∧k≤5) (hw:0≤w∧w≤6):oB.f y m k w=oB.l2 y m k (nth1 y m w+7*(k-1)):=by
 have hN:=eK y m 1 hy.1 (by omega) hm.1 hm.2 (by omega) (by omega);have e1:fst_ y+1-1+cum y m=fst_ y+cum y m:=by omega
 rw[e1]at hN;have hb:=cJ1 (fst_ y+cum y m);have hn:=kB1 y m w;have e:1+(w-wk (fst_ y+cum y m)+7)%7=nth1 y m w:=by unfold wk nth1;omega
 rw[oB.f_eq,gO,dp (show 1≤y∧y≤9999 from hy)];simp only[wW1];rw[zF1,dp (show 1≤m∧m≤12 from hm)];simp only[wW1];rw[gQ,dp (show 0≤w∧w≤6 from hw)];rw[dn (show ¬k<1 by omega),dn (show ¬k>5 by omega)];simp only[wW1,gX1,cond_false];rw[oB.l1_eq,cond_false,hN];simp only[wW1];rw[oF];simp(disch:=omega)only[ss,tmn (show(0:Int)≤w-wk (fst_ y+cum y m)+7 by omega),e]
def nthL (y m w:Int):Int:=if nth1 y m w+28>mlen y m then nth1 y m w+21 else nth1 y m w+28
theorem tW1 (y m w:Int) (hy:1≤y∧y≤9999) (hm:1≤m∧m≤12) (hw:0≤w∧w≤6):oB.f y m 5 w=some (nthL y m w,0,()):=by
 have hn:=kB1 y m w;have hl:=fL1 y m hm.1 hm.2;have hL:=jF y m (by omega);unfold nthL;rw[wO1 y m 5 w hy hm (by omega) hw,oB.l2_eq,show nth1 y m w+7*(5-1)=nth1 y m w+28 by omega];by_cases c:nth1 y m w+28>mlen y m
 ·rw[if_pos c];simp(disch:=omega)only[ss,hL,oB.l3_eq];rw[oB.l2_eq];have e:nth1 y m w+28-7=nth1 y m w+21:=by omega
  simp(disch:=omega)only[ss,hL,oB.l3_eq,e]
 ·rw[if_neg c];simp(disch:=omega)only[ss,hL,oB.l3_eq]
end Go.GV.YtegmfagkklekaaaGreatDoor
