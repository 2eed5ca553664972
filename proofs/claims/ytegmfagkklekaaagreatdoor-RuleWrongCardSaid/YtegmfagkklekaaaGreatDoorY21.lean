/-
Part of the words that the laws of this seat are proved with: no statement of its own, no conditions.
-/
import Derived.Test.YtegmfagkklekaaaGreatDoorY20
set_option linter.unusedVariables false
set_option linter.unusedSimpArgs false
namespace Go.GV.YtegmfagkklekaaaGreatDoor
open Go.Proofs
def opt (b:Bool) (name v:List UInt8):List (List UInt8):=bif b then [name++61::v]else []
def optU (b:Bool) (u:Up):List Up:=bif b then [u]else []
def tl :List (List UInt8)→List UInt8
 | []=>[]
 | a::l=>59::(a++tl l)
theorem cQ1 :∀(l m:List (List UInt8)),tl (l++m)=tl l++tl m
 | [],m=>rfl
 | a::l,m=>by show 59::(a++tl (l++m))=(59::(a++tl l))++tl m;rw[cQ1 l m];simp
theorem fE2 :∀(a:List UInt8) (l:List (List UInt8)),jn 59 (a::l)=a++tl l
 | a,[]=>by simp[jn,tl]
 | a,b::l=>by show a++59::jn 59 (b::l)=_;rw[fE2 b l];rfl
theorem qL (b:Bool) (name v:List UInt8):(tl (opt b name v)).length≤name.length+v.length+2:=by
 cases b with
 | false=>simp[opt,tl]
 | true=>
  simp[opt,tl];omega
theorem jA1 (name v s:List UInt8) (b:Bool) (hn:name.length≤20) (hv:v.length≤3000) (hs:s.length≤100000):lF.f (mkS name) (mkS v) b (mkS s,())=some ((mkS (s++tl (opt b name v)),()),()):=by
 rw[lF.f_eq]
 cases b with
 | false=>
  simp only[cond_false];simp[opt,tl]
 | true=>
  have h59:(⟨#[59]⟩:ByteArray)=mkS [59]:=rfl;have h61:(⟨#[61]⟩:ByteArray)=mkS [61]:=rfl;simp(disch:=omega)only[ss,h59,h61,aE,szS,pJ2,sJ2];have:s++([59]++name++[61]++v)=s++tl (opt true name v):=by simp[opt,tl]
  rw[this]
theorem eL1 (c:UInt8):∀xs:List (List UInt8),Lib.join xs [c]=jn c xs
 | []=>rfl
 | [a]=>by simp[Lib.join,List.intercalate,jn]
 | a::b::l=>by have ih:=eL1 c (b::l);unfold Lib.join List.intercalate at ih ⊢;show _=a++c::jn c (b::l);rw[←ih];simp[List.intersperse]
theorem eQ1 (xs:List (List UInt8)) (h:xs.length≤1000) (hl:(jn 44 xs).length≤1000000):mG.f (xs.map mkS) ⟨#[44]⟩=some (mkS (jn 44 xs),()):=by
 have hlim:pC=17179869184:=rfl;have e:lU (xs.map mkS) ⟨#[44]⟩=jn 44 xs:=by
  unfold lU;rw[List.map_map]
  have:(xs.map ((fun x:ByteArray=>x.data.toList)∘mkS))=xs:=by have:((fun x:ByteArray=>x.data.toList)∘mkS)=id:=rfl;rw[this,List.map_id]
  rw[this];exact eL1 44 xs
 rw[mG.f_sem];show yB2 (xs.map mkS) ⟨#[44]⟩=_;unfold yB2;rw[e];simp(disch:=omega)only[ss,vJ2];rfl
theorem dA2 :∀(k u:Nat),u<10 ^ (k+1)→(Lib.decDigits u).length≤k+1:=by
 intro k
 induction k with
 | zero=>intro u h;rw[mN1,Lib.nDigits_small (by simpa using h)];omega
 | succ k ih=>
  intro u h;by_cases hu:u<10
  ·rw[mN1,Lib.nDigits_small hu];omega
  ·have:=ih (u/10) (by rw[Nat.pow_succ]at h;omega);rw[mN1]at this ⊢;rw[Lib.nDigits_big hu];omega
theorem yM (n:Int) (h0: -999≤n) (h1:n≤9999):(Lib.itoa n).length≤4:=by
 by_cases hn:n<0
 ·rw[cG hn,yJ2];have:=dA2 2 n.natAbs (by omega);omega
 ·rw[iF hn];exact dA2 3 n.toNat (by omega)
theorem fS1 {n:Int}:∀c∈Lib.itoa n,c=45∨dig c:=by
 intro c hc;by_cases hn:n<0
 ·rw[cG hn]at hc;rcases uJ2.1 hc with h | h
  ·exact .inl h
  ·exact .inr (xY _ c h)
 ·rw[iF hn]at hc;exact .inr (xY _ c hc)
theorem mR {n:Int} {c:UInt8} (h1:c≠45) (h2:¬dig c):c∉Lib.itoa n:=fun h=>(fS1 c h).elim h1 h2
theorem wF1 (k:Nat):∀l:List (List UInt8),(∀s∈l,s.length≤k)→tot l≤k*l.length
 | [],_=>xJ2 _
 | a::l,h=>by
  have h1:=h a (by simp);have h2:=wF1 k l fun s hs=>h s (wJ2 _ hs)
  simp only[tot,yJ2];rw[Nat.mul_add];omega
def small (l:List Int):Prop:=∀n∈l,-366≤n∧n≤366
theorem qI (l:List Int) (h:l.length≤60) (hb:small l):(jn 44 (l.map Lib.itoa)).length≤300:=by
 have h1:=zV1 44 (l.map Lib.itoa)
 have h2:=wF1 4 (l.map Lib.itoa) fun s hs=>by obtain⟨n,hn,e⟩:=nK2.1 hs;rw[←e];have:=hb n hn;exact yM n (by omega) (by omega)
 rw[vJ2]at h1 h2;omega
theorem cD1 (l:List Int) (h:l.length≤60) (hb:small l):mE.f l=some (mkS (jn 44 (l.map Lib.itoa)),()):=by
 have hlim:pC=17179869184:=rfl;have hlen:=qI l h hb;have hJ:=eQ1 (l.map Lib.itoa) (by rw[vJ2];omega) (by omega);have key:∀(k i:Nat),l.length-i=k→i≤l.length→mE.l1 l l.length i (((l.take i).map Lib.itoa).map mkS)=some (mkS (jn 44 (l.map Lib.itoa)),()):=by
  intro k
  induction k with
  | zero=>
   intro i hk hil;have e:i=l.length:=by omega
   subst e;rw[mE.l1_eq,wL2,hJ];simp(disch:=omega)only[ss]
  | succ k ih=>
   intro i hk hil;have hlt:i<l.length:=by omega
   have hn:=hb _ (yC 0 hlt);have hI:=bK (l.getD i 0) (by omega) (by omega);have:=ih (i+1) (by omega) (by omega);rw[wE 0 hlt,hK2,hK2]at this;have hl1:(((l.take i).map Lib.itoa).map mkS).length=i:=by simp;omega
   rw[mE.l1_eq];simp(disch:=omega)only[ss,hI,hl1,sJ2,hlim];exact this
 have:=key _ 0 rfl (xJ2 _);rw[fK2]at this;rw[mE.f_eq];exact this
theorem eU (name:List UInt8) (l:List Int) (s:List UInt8) (hn:name.length≤20) (h:l.length≤60) (hb:small l) (hs:s.length≤100000):
  yE.f (mkS name) l (((mkS s,()),()),())=some ((((mkS (s++tl (opt (decide ((l.length:Int)>0)) name (jn 44 (l.map Lib.itoa)))),()),()),()),()):=by
 have hl:=qI l h hb;rw[yE.f_eq,cD1 l h hb];simp only[qJ2];rw[jA1 name _ s _ hn (by omega) hs];rfl
def dt (d:Dy):List UInt8:=(if d.1=0 then []else Lib.itoa d.1)++wd.getD d.2.1.toNat []
def iP (l:List Dy):Prop:=∀d∈l,-53≤d.1∧d.1≤53∧0≤d.2.1∧d.2.1≤6
theorem fw7 :fw.length=7:=rfl
theorem wd7 :wd.length=7:=rfl
theorem qU {α:Type} {l:List α} {z:α} {i:Nat} (h:¬i<l.length):l.getD i z=z:=by rw[rJ2,tL2 (by omega)];rfl
theorem vA2 (i:Nat):(fw.getD i []).length≤8:=by
 by_cases h:i<fw.length
 ·exact(show ∀s∈fw,s.length≤8 by decide) _ (yC [] h)
 ·rw[qU h];exact xJ2 _
theorem gG1 (i:Nat):(wd.getD i []).length≤2:=by
 by_cases h:i<wd.length
 ·exact(show ∀s∈wd,s.length≤2 by decide) _ (yC [] h)
 ·rw[qU h];exact xJ2 _
theorem jR1 (d:Dy) (h: -53≤d.1∧d.1≤53):(dt d).length≤6:=by
 have h1:=gG1 d.2.1.toNat;have h2:=yM d.1 (by omega) (by omega);unfold dt;rw[pJ2];split
 ·rw[jK2];omega
 ·omega
theorem uW (l:List Dy) (h:l.length≤60) (hb:iP l):(jn 44 (l.map dt)).length≤420:=by
 have h1:=zV1 44 (l.map dt)
 have h2:=wF1 6 (l.map dt) fun s hs=>by obtain⟨n,hn,e⟩:=nK2.1 hs;rw[←e];have:=hb n hn;exact jR1 n ⟨this.1,this.2.1⟩
 rw[vJ2]at h1 h2;omega
theorem yO1 (l:List Dy) (h:l.length≤60) (hb:iP l):nE.f l=some (mkS (jn 44 (l.map dt)),()):=by
 have hlim:pC=17179869184:=rfl;have hlen:=uW l h hb;have hJ:=eQ1 (l.map dt) (by rw[vJ2];omega) (by omega);have key:∀(k i:Nat),l.length-i=k→i≤l.length→nE.l1 l l.length i (((l.take i).map dt).map mkS)=some (mkS (jn 44 (l.map dt)),()):=by
  intro k
  induction k with
  | zero=>
   intro i hk hil;have e:i=l.length:=by omega
   subst e;rw[nE.l1_eq,wL2,hJ];simp(disch:=omega)only[ss]
  | succ k ih=>
   intro i hk hil;have hlt:i<l.length:=by omega
   have hn:=hb _ (yC ((0,0,()):Dy) hlt);have:=ih (i+1) (by omega) (by omega);rw[wE ((0,0,()):Dy) hlt,hK2,hK2]at this;have hl1:(((l.take i).map dt).map mkS).length=i:=by simp;omega
   have hs1:[dt (l.getD i ((0,0,()):Dy))].map mkS=[mkS (dt (l.getD i ((0,0,()):Dy)))]:=rfl;have hs2:[l.getD i ((0,0,()):Dy)].map dt=[dt (l.getD i ((0,0,()):Dy))]:=rfl;rw[hs2,hs1]at this;have hdl:=jR1 (l.getD i ((0,0,()):Dy)) ⟨hn.1,hn.2.1⟩;rw[nE.l1_eq];generalize hd:l.getD i ((0,0,()):Dy)=d at hn this hdl;have hd':l.getD i ((0,0,()):Int×Int×Unit)=d:=hd;have hI:=bK d.1 (by omega) (by omega);have hgw:=gm wd d.2.1.toNat (by rw[wd7];omega);have hwl:((wd.map mkS).length:Int)=7:=rfl;have hl4:=yM d.1 (by omega) (by omega);have hl2:=gG1 d.2.1.toNat;by_cases c:d.1=0
   ·have e:dt d=wd.getD d.2.1.toNat []:=by unfold dt;rw[if_pos c];rfl
    rw[e]at this;simp(disch:=omega)only[ss,hd',yI,hwl,hgw,nE.l2_eq,hl1,sJ2,hlim];exact this
   ·have e:dt d=Lib.itoa d.1++wd.getD d.2.1.toNat []:=by unfold dt;rw[if_neg c]
    rw[e]at this;simp(disch:=omega)only[ss,hd',yI,hwl,hgw,hI,szS,aE,nE.l2_eq,hl1,sJ2,hlim];exact this
 have:=key _ 0 rfl (xJ2 _);rw[fK2]at this;rw[nE.f_eq];exact this
theorem nL {l:List Int} {lo hi:Int} {z:Bool} (h:wi l lo hi z) (h1: -366≤lo) (h2:hi≤366):l.length≤60∧small l:=by refine⟨h.2,fun n hn=>?_⟩;obtain⟨j,hj,e⟩:=zM2 hn;have h3:=(h.1 j hj).1;unfold okI at h3;rw[bI 0 hj,e]at h3;omega
theorem fR1 {l:List Dy} (h:dwi l):l.length≤60∧iP l:=by refine⟨h.2,fun n hn=>?_⟩;obtain⟨j,hj,e⟩:=zM2 hn;have h3:=h.1 j hj;unfold okD gD at h3;rw[bI _ hj,e]at h3;exact⟨h3.1,h3.2.1,h3.2.2.1,h3.2.2.2.1⟩
open Classical in
/-- A moment's text. -/
noncomputable def utx (t:Int):List UInt8:=if h: -62135596800≤t∧t≤253402300799 then Classical.choose (oE1 t h.1 h.2)else []
theorem sY (t:Int) (h: -62135596800≤t∧t≤253402300799):(utx t).length=15∧(∀c∈utx t,c=84∨dig c)∧kH.f t=some (mkS (utx t),0,())∧oG.f t=some (mkS (utx t),0,())∧gB.f (mkS (utx t))=some (t,0,()):=by unfold utx;rw[dif_pos h];exact Classical.choose_spec (oE1 t h.1 h.2)
theorem wM (t:Int) (h: -62135596800≤t∧t≤253402300799):(utx t).length≤15∧kH.f t=some (mkS (utx t),0,())∧gB.f (mkS (utx t))=some (t,0,()):=by obtain⟨h1,_,h2,_,h3⟩:=sY t h;exact⟨by omega,h2,h3⟩
theorem aG1 (f iv ct un wk:Int) (en:Bool) (mo we yd md:List Int) (dy:List Dy) (ho mi se po:List Int) (hp:mayP f iv ct un wk en mo we yd md dy ho mi se po):
  (1≤f∧f≤7∧1≤iv∧iv≤1000)∧(0≤ct∧ct≤4096∧0≤wk∧wk≤6)∧(-62135596800≤un∧un≤253402300799)∧(mo.length≤60∧small mo)∧(we.length≤60∧small we)∧(yd.length≤60∧small yd)∧(md.length≤60∧small md)∧(dy.length≤60∧iP dy)∧(ho.length≤60∧small ho)∧(mi.length≤60∧small mi)∧(se.length≤60∧small se)∧(po.length≤60∧small po):=by
 obtain⟨⟨h1,h2,h3⟩,⟨l1,l2,l3,l4,l5,l6,l7,l8,l9,_⟩,_⟩:=hp;refine⟨⟨h1.1,h1.2.1,h1.2.2.1,h1.2.2.2.1⟩,⟨h1.2.2.2.2.1,h1.2.2.2.2.2.1,h1.2.2.2.2.2.2.1,h1.2.2.2.2.2.2.2⟩,?_,nL l1 (by omega) (by omega),nL l2 (by omega) (by omega),nL l3 (by omega) (by omega),nL l4 (by omega) (by omega),fR1 l9,nL l5 (by omega) (by omega),nL l6 (by omega) (by omega),nL l7 (by omega) (by omega),nL l8 (by omega) (by omega)⟩
 cases en with
 | true=>exact(h2 rfl).1
 | false=>rw[h3 rfl];omega
section
variable (f iv ct un wk : Int) (en : Bool) (mo we yd md : List Int) (dy : List Dy) (ho mi se po : List Int)
noncomputable def rest :List (List UInt8):=
 opt (!decide (iv=1)) [73,78,84,69,82,86,65,76] (Lib.itoa iv)++(opt (!decide (ct=0)) [67,79,85,78,84] (Lib.itoa ct)++(opt (en) [85,78,84,73,76] (utx un)++(opt (decide ((mo.length:Int)>0)) [66,89,77,79,78,84,72] (jn 44 (mo.map Lib.itoa))++(opt (decide ((we.length:Int)>0)) [66,89,87,69,69,75,78,79] (jn 44 (we.map Lib.itoa))++(opt (decide ((yd.length:Int)>0)) [66,89,89,69,65,82,68,65,89] (jn 44 (yd.map Lib.itoa))++(opt (decide ((md.length:Int)>0)) [66,89,77,79,78,84,72,68,65,89] (jn 44 (md.map Lib.itoa))++(opt (decide ((dy.length:Int)>0)) [66,89,68,65,89] (jn 44 (dy.map dt))++(opt (decide ((ho.length:Int)>0)) [66,89,72,79,85,82] (jn 44 (ho.map Lib.itoa))++(opt (decide ((mi.length:Int)>0)) [66,89,77,73,78,85,84,69] (jn 44 (mi.map Lib.itoa))++(opt (decide ((se.length:Int)>0)) [66,89,83,69,67,79,78,68] (jn 44 (se.map Lib.itoa))++(opt (decide ((po.length:Int)>0)) [66,89,83,69,84,80,79,83] (jn 44 (po.map Lib.itoa))++(opt (!decide (wk=0)) [87,75,83,84] (wd.getD wk.toNat [])))))))))))))
noncomputable def uR :List (List UInt8):=([70,82,69,81]++61::fw.getD (f-1).toNat [])::rest iv ct un wk en mo we yd md dy ho mi se po
def ups :List Up:=
 .fr f::(optU (!decide (iv=1)) (.iv iv)++(optU (!decide (ct=0)) (.ct ct)++(optU (en) (.un un)++(optU (decide ((mo.length:Int)>0)) (.mo mo)++(optU (decide ((we.length:Int)>0)) (.we we)++(optU (decide ((yd.length:Int)>0)) (.yd yd)++(optU (decide ((md.length:Int)>0)) (.md md)++(optU (decide ((dy.length:Int)>0)) (.dy dy)++(optU (decide ((ho.length:Int)>0)) (.ho ho)++(optU (decide ((mi.length:Int)>0)) (.mi mi)++(optU (decide ((se.length:Int)>0)) (.se se)++(optU (decide ((po.length:Int)>0)) (.po po)++(optU (!decide (wk=0)) (.wk wk))))))))))))))
theorem fA1 (hM:vA.f (f,iv,ct,un,wk,en,mo,we,yd,md,dy,ho,mi,se,po,())=some (true,())) (hp:mayP f iv ct un wk en mo we yd md dy ho mi se po):xG.f (f,iv,ct,un,wk,en,mo,we,yd,md,dy,ho,mi,se,po,())=some (mkS (jn 59 (uR f iv ct un wk en mo we yd md dy ho mi se po)),0,())∧(jn 59 (uR f iv ct un wk en mo we yd md dy ho mi se po)).length≤4096:=by
 obtain⟨b1,b2,b3,bmo,bwe,byd,bmd,bdy,bho,bmi,bse,bpo⟩:=aG1 f iv ct un wk en mo we yd md dy ho mi se po hp;have hwf:(fw.getD (f-1).toNat []).length≤8:=vA2 _;have hwk:(wd.getD wk.toNat []).length≤2:=gG1 _;obtain⟨u1,u2,u3⟩:=wM un b3;have li:=yM iv (by omega) (by omega);have lc:=yM ct (by omega) (by omega);obtain⟨s0,e0⟩:∃s,s=[70,82,69,81]++61::fw.getD (f-1).toNat []:=⟨_,rfl⟩
 have n0:([70,82,69,81]:List UInt8).length=4:=rfl;have l0:s0.length≤13:=by rw[e0];simp only[pJ2,yJ2,jK2];omega
 have p1:=jA1 [73,78,84,69,82,86,65,76] (Lib.itoa iv) s0 (!decide (iv=1)) (by decide) (by omega) (by omega);have q1:=qL (!decide (iv=1)) [73,78,84,69,82,86,65,76] (Lib.itoa iv);obtain⟨s1,e1⟩:∃s,s=s0++tl (opt (!decide (iv=1)) [73,78,84,69,82,86,65,76] (Lib.itoa iv)):=⟨_,rfl⟩
 rw[←e1]at p1;have n1:([73,78,84,69,82,86,65,76]:List UInt8).length=8:=rfl;have l1:s1.length≤s0.length+14:=by rw[e1,pJ2];omega
 have p2:=jA1 [67,79,85,78,84] (Lib.itoa ct) s1 (!decide (ct=0)) (by decide) (by omega) (by omega);have q2:=qL (!decide (ct=0)) [67,79,85,78,84] (Lib.itoa ct);obtain⟨s2,e2⟩:∃s,s=s1++tl (opt (!decide (ct=0)) [67,79,85,78,84] (Lib.itoa ct)):=⟨_,rfl⟩
 rw[←e2]at p2;have n2:([67,79,85,78,84]:List UInt8).length=5:=rfl;have l2:s2.length≤s1.length+11:=by rw[e2,pJ2];omega
 have p3:=jA1 [85,78,84,73,76] (utx un) s2 (en) (by decide) (by omega) (by omega);have q3:=qL (en) [85,78,84,73,76] (utx un);obtain⟨s3,e3⟩:∃s,s=s2++tl (opt (en) [85,78,84,73,76] (utx un)):=⟨_,rfl⟩
 rw[←e3]at p3;have n3:([85,78,84,73,76]:List UInt8).length=5:=rfl;have l3:s3.length≤s2.length+22:=by rw[e3,pJ2];omega
 have lmo:=qI mo bmo.1 bmo.2;have p4:=eU [66,89,77,79,78,84,72] mo s3 (by decide) bmo.1 bmo.2 (by omega);have q4:=qL (decide ((mo.length:Int)>0)) [66,89,77,79,78,84,72] (jn 44 (mo.map Lib.itoa));obtain⟨s4,e4⟩:∃s,s=s3++tl (opt (decide ((mo.length:Int)>0)) [66,89,77,79,78,84,72] (jn 44 (mo.map Lib.itoa))):=⟨_,rfl⟩
 rw[←e4]at p4;have n4:([66,89,77,79,78,84,72]:List UInt8).length=7:=rfl;have l4:s4.length≤s3.length+309:=by rw[e4,pJ2];omega
 have lwe:=qI we bwe.1 bwe.2;have p5:=eU [66,89,87,69,69,75,78,79] we s4 (by decide) bwe.1 bwe.2 (by omega);have q5:=qL (decide ((we.length:Int)>0)) [66,89,87,69,69,75,78,79] (jn 44 (we.map Lib.itoa));obtain⟨s5,e5⟩:∃s,s=s4++tl (opt (decide ((we.length:Int)>0)) [66,89,87,69,69,75,78,79] (jn 44 (we.map Lib.itoa))):=⟨_,rfl⟩
 rw[←e5]at p5;have n5:([66,89,87,69,69,75,78,79]:List UInt8).length=8:=rfl;have l5:s5.length≤s4.length+310:=by rw[e5,pJ2];omega
 have lyd:=qI yd byd.1 byd.2;have p6:=eU [66,89,89,69,65,82,68,65,89] yd s5 (by decide) byd.1 byd.2 (by omega);have q6:=qL (decide ((yd.length:Int)>0)) [66,89,89,69,65,82,68,65,89] (jn 44 (yd.map Lib.itoa));obtain⟨s6,e6⟩:∃s,s=s5++tl (opt (decide ((yd.length:Int)>0)) [66,89,89,69,65,82,68,65,89] (jn 44 (yd.map Lib.itoa))):=⟨_,rfl⟩
 rw[←e6]at p6;have n6:([66,89,89,69,65,82,68,65,89]:List UInt8).length=9:=rfl;have l6:s6.length≤s5.length+311:=by rw[e6,pJ2];omega
 have lmd:=qI md bmd.1 bmd.2;have p7:=eU [66,89,77,79,78,84,72,68,65,89] md s6 (by decide) bmd.1 bmd.2 (by omega);have q7:=qL (decide ((md.length:Int)>0)) [66,89,77,79,78,84,72,68,65,89] (jn 44 (md.map Lib.itoa));obtain⟨s7,e7⟩:∃s,s=s6++tl (opt (decide ((md.length:Int)>0)) [66,89,77,79,78,84,72,68,65,89] (jn 44 (md.map Lib.itoa))):=⟨_,rfl⟩
 rw[←e7]at p7;have n7:([66,89,77,79,78,84,72,68,65,89]:List UInt8).length=10:=rfl;have l7:s7.length≤s6.length+312:=by rw[e7,pJ2];omega
 have ldy:=uW dy bdy.1 bdy.2;have p8:=jA1 [66,89,68,65,89] (jn 44 (dy.map dt)) s7 (decide ((dy.length:Int)>0)) (by decide) (by omega) (by omega);have q8:=qL (decide ((dy.length:Int)>0)) [66,89,68,65,89] (jn 44 (dy.map dt));obtain⟨s8,e8⟩:∃s,s=s7++tl (opt (decide ((dy.length:Int)>0)) [66,89,68,65,89] (jn 44 (dy.map dt))):=⟨_,rfl⟩
 rw[←e8]at p8;have n8:([66,89,68,65,89]:List UInt8).length=5:=rfl;have l8:s8.length≤s7.length+427:=by rw[e8,pJ2];omega
 have lho:=qI ho bho.1 bho.2;have p9:=eU [66,89,72,79,85,82] ho s8 (by decide) bho.1 bho.2 (by omega);have q9:=qL (decide ((ho.length:Int)>0)) [66,89,72,79,85,82] (jn 44 (ho.map Lib.itoa));obtain⟨s9,e9⟩:∃s,s=s8++tl (opt (decide ((ho.length:Int)>0)) [66,89,72,79,85,82] (jn 44 (ho.map Lib.itoa))):=⟨_,rfl⟩
 rw[←e9]at p9;have n9:([66,89,72,79,85,82]:List UInt8).length=6:=rfl;have l9:s9.length≤s8.length+308:=by rw[e9,pJ2];omega
 have lmi:=qI mi bmi.1 bmi.2;have p10:=eU [66,89,77,73,78,85,84,69] mi s9 (by decide) bmi.1 bmi.2 (by omega);have q10:=qL (decide ((mi.length:Int)>0)) [66,89,77,73,78,85,84,69] (jn 44 (mi.map Lib.itoa));obtain⟨s10,e10⟩:∃s,s=s9++tl (opt (decide ((mi.length:Int)>0)) [66,89,77,73,78,85,84,69] (jn 44 (mi.map Lib.itoa))):=⟨_,rfl⟩
 rw[←e10]at p10;have n10:([66,89,77,73,78,85,84,69]:List UInt8).length=8:=rfl;have l10:s10.length≤s9.length+310:=by rw[e10,pJ2];omega
 have lse:=qI se bse.1 bse.2;have p11:=eU [66,89,83,69,67,79,78,68] se s10 (by decide) bse.1 bse.2 (by omega);have q11:=qL (decide ((se.length:Int)>0)) [66,89,83,69,67,79,78,68] (jn 44 (se.map Lib.itoa));obtain⟨s11,e11⟩:∃s,s=s10++tl (opt (decide ((se.length:Int)>0)) [66,89,83,69,67,79,78,68] (jn 44 (se.map Lib.itoa))):=⟨_,rfl⟩
 rw[←e11]at p11;have n11:([66,89,83,69,67,79,78,68]:List UInt8).length=8:=rfl;have l11:s11.length≤s10.length+310:=by rw[e11,pJ2];omega
 have lpo:=qI po bpo.1 bpo.2;have p12:=eU [66,89,83,69,84,80,79,83] po s11 (by decide) bpo.1 bpo.2 (by omega);have q12:=qL (decide ((po.length:Int)>0)) [66,89,83,69,84,80,79,83] (jn 44 (po.map Lib.itoa));obtain⟨s12,e12⟩:∃s,s=s11++tl (opt (decide ((po.length:Int)>0)) [66,89,83,69,84,80,79,83] (jn 44 (po.map Lib.itoa))):=⟨_,rfl⟩
 rw[←e12]at p12;have n12:([66,89,83,69,84,80,79,83]:List UInt8).length=8:=rfl;have l12:s12.length≤s11.length+310:=by rw[e12,pJ2];omega
 have p13:=jA1 [87,75,83,84] (wd.getD wk.toNat []) s12 (!decide (wk=0)) (by decide) (by omega) (by omega);have q13:=qL (!decide (wk=0)) [87,75,83,84] (wd.getD wk.toNat []);obtain⟨s13,e13⟩:∃s,s=s12++tl (opt (!decide (wk=0)) [87,75,83,84] (wd.getD wk.toNat [])):=⟨_,rfl⟩
 rw[←e13]at p13;have n13:([87,75,83,84]:List UInt8).length=4:=rfl;have l13:s13.length≤s12.length+8:=by rw[e13,pJ2];omega
 have hfin:s13=jn 59 (uR f iv ct un wk en mo we yd md dy ho mi se po):=by unfold uR rest;rw[fE2,←e0];simp only[cQ1];rw[e13,e12,e11,e10,e9,e8,e7,e6,e5,e4,e3,e2,e1];simp only[eK2]
 refine⟨?_,by rw[←hfin];omega⟩;have hw:w6 (f-1)=f-1:=wr (by omega) (by omega);have hgf:=gm fw (f-1).toNat (by rw[fw7];omega);have hgw:=gm wd wk.toNat (by rw[wd7];omega);have hfl:((fw.map mkS).length:Int)=7:=rfl;have hwl:((wd.map mkS).length:Int)=7:=rfl;have hIi:=bK iv (by omega) (by omega);have hIc:=bK ct (by omega) (by omega);have hD:=yO1 dy bdy.1 bdy.2;have hF:(⟨#[70,82,69,81,61]⟩:ByteArray)=mkS [70,82,69,81,61]:=rfl;have hs0:[70,82,69,81,61]++fw.getD (f-1).toNat []=s0:=by rw[e0];rfl
 rw[xG.f_eq];simp only[hM,qJ2,zK2,cond_false,zD1,hw,yI,hgf,hF,aE,hs0,u2,hIi,hIc,hD,hgw,szS,hfl,hwl,nm0,nm1,nm2,nm3,nm4,nm5,nm6,nm7,nm8,nm9,nm10,nm11,nm12,nm13];simp(disch:=omega)only[ss,yJ2,jK2,p1,p2,p3,p4,p5,p6,p7,p8,p9,p10,p11,p12,p13];rw[hfin]
end
theorem qH (b:Bool) (name v:List UInt8) (u:Up) (h:b=true→Good (name++61::v) u):All2 Good (opt b name v) (optU b u):=by
 cases b with
 | false=>exact trivial
 | true=>exact⟨h rfl,trivial⟩
theorem rH (b:Bool) (u:Up):List.Sublist ((optU b u).map Up.key) [u.key]:=by
 cases b with
 | false=>exact List.nil_sublist _
 | true=>exact List.Sublist.refl _
theorem uG (r:Rl) (us vs:List Up):pJ r (us++vs)=pJ (pJ r us) vs:=by unfold pJ;rw[List.foldl_append]
theorem lW {α:Type} (R:α→α→Prop) (tr:∀a b c,R a b→R b c→R a c) (z:α):∀l:List α,(∀j,0<j→j<l.length→R (l.getD (j-1) z) (l.getD j z))→l.Pairwise R
 | [],_=>List.Pairwise.nil
 | [a],_=>List.pairwise_singleton ..
 | a::b::l,h=>by
  have ih:=lW R tr z (b::l) fun j h0 hj=>by
   have:=h (j+1) (by omega) (by simp at hj ⊢;omega);obtain⟨i,rfl⟩:∃i,j=i+1:=⟨j-1,by omega⟩
   exact this
  have h1:R a b:=h 1 (by omega) (by simp);refine aL2.2 ⟨fun x hx=>?_,ih⟩;rcases uJ2.1 hx with e | hx
  ·rw[e];exact h1
  ·exact tr a b x h1 ((aL2.1 ih).1 x hx)
theorem fL {l:List Int} {lo hi:Int} {z:Bool} (h:wi l lo hi z):lM l:=
 lW (fun a b:Int=>a<b) (fun _ _ _=>Int.lt_trans) 0 l fun j h0 hj=>(h.1 j hj).2 h0
theorem tU1 {l:List Dy} (h:dwi l):gP l:=
 lW dyLt (fun a b c h g=>by unfold dyLt at *;omega) ((0,0,()):Dy) l fun j h0 hj=>(h.1 j hj).2.2.2.2 h0
theorem qL1 (n:Int) (h0: -999999999≤n) (h1:n≤999999999):vE.f (mkS (Lib.itoa n))=some (n,true,()):=by
 have hl:=qN1 (n:=n) (by omega) (by omega);rcases qK (Lib.itoa n) (by omega)with⟨m,hm,e⟩ | ⟨hno,_⟩
 ·rw[e,zJ hm ⟨rfl,h0,h1⟩]
 ·exact absurd ⟨rfl,h0,h1⟩ (hno n)
theorem mP1 (f:Int) (h0:1≤f) (h1:f≤7):Good ([70,82,69,81]++61::fw.getD (f-1).toNat []) (.fr f):=by
 refine⟨_,rfl,by show(61:UInt8)∉[70,82,69,81];decide,fun r=>?_⟩;show iA.f r (mkS [70,82,69,81]) _=_;have hp:posF 0 fw (fw.getD (f-1).toNat [])=f-1:=by
  have:f=1∨f=2∨f=3∨f=4∨f=5∨f=6∨f=7:=by omega
  rcases this with rfl | rfl | rfl | rfl | rfl | rfl | rfl <;> rfl
 rw[oM1,fK fw _ (by decide),hp];have hw:w6 (f-1+1)=f:=by rw[wr (by omega) (by omega)];omega
 show some (decide (w6 (f-1+1)>0),(Up.fr (w6 (f-1+1))).ap r,())=_;rw[hw,dp (show f>0 by omega)]
theorem rQ1 (w:Int) (h0:0≤w) (h1:w≤6):Good ([87,75,83,84]++61::wd.getD w.toNat []) (.wk w):=by
 refine⟨_,rfl,by show(61:UInt8)∉[87,75,83,84];decide,fun r=>?_⟩;show iA.f r (mkS [87,75,83,84]) _=_;have hp:posF 0 wd (wd.getD w.toNat [])=w:=by
  have:w=0∨w=1∨w=2∨w=3∨w=4∨w=5∨w=6:=by omega
  rcases this with rfl | rfl | rfl | rfl | rfl | rfl | rfl <;> rfl
 rw[nM1,fK wd _ (by decide),hp];show some (decide (w≥0),(Up.wk w).ap r,())=_;rw[dp (show w≥0 from h0)]
theorem lE1 (n:Int) (h0:0≤n) (h1:n≤9999):Good ([73,78,84,69,82,86,65,76]++61::Lib.itoa n) (.iv n):=by refine⟨_,rfl,by show(61:UInt8)∉[73,78,84,69,82,86,65,76];decide,fun r=>?_⟩;show iA.f r (mkS [73,78,84,69,82,86,65,76]) _=_;rw[zT,qL1 n (by omega) (by omega)];rfl
theorem zN1 (n:Int) (h0:0≤n) (h1:n≤9999):Good ([67,79,85,78,84]++61::Lib.itoa n) (.ct n):=by refine⟨_,rfl,by show(61:UInt8)∉[67,79,85,78,84];decide,fun r=>?_⟩;show iA.f r (mkS [67,79,85,78,84]) _=_;rw[pG1,qL1 n (by omega) (by omega)];rfl
theorem yM1 (t:Int) (s:List UInt8) (h:gB.f (mkS s)=some (t,0,())):Good ([85,78,84,73,76]++61::s) (.un t):=by refine⟨_,rfl,by show(61:UInt8)∉[85,78,84,73,76];decide,fun r=>?_⟩;show iA.f r (mkS [85,78,84,73,76]) _=_;rw[pF1,h];rfl
theorem gC1 :∀(l:List Int),small l→All2 isN (l.map Lib.itoa) l
 | [],_=>trivial
 | n::l,h=>⟨⟨rfl,by have:=h n (by simp);omega,by have:=h n (by simp);omega⟩,gC1 l fun x hx=>h x (wJ2 _ hx)⟩
theorem qX {α β:Type} {R:α→β→Prop} (hu:∀a b c,R a b→R a c→b=c):∀{a:List α} {b c:List β},All2 R a b→All2 R a c→b=c
 | [],[],[],_,_=>rfl
 | x::a,y::b,z::c,h,g=>by rw[hu x y z h.1 g.1,qX hu h.2 g.2]
 | [],_::_,_,h,_=>h.elim
 | [],[],_::_,_,g=>g.elim
 | _::_,[],_,h,_=>h.elim
 | _::_,_::_,[],_,g=>g.elim
theorem rL (l:List Int) (hn:l≠[]) (hr:lM l) (hl:l.length≤60) (hs:small l):eC.f (mkS (jn 44 (l.map Lib.itoa)))=some (l,true,()):=by
 have hlen:=qI l hl hs
 have hsg:=uH1 44 (l.map Lib.itoa) (by simpa using hn) fun s h=>by obtain⟨n,_,e⟩:=nK2.1 h;rw[←e];exact mR (by decide) (by unfold dig;decide)
 rcases iI (jn 44 (l.map Lib.itoa)) (by omega)with⟨r,⟨⟨q1,_⟩,ns,q3,_,q5⟩,e,_⟩ | ⟨hno,_⟩
 ·rw[hsg]at q3;have:=qX (R:=isN) (fun _ _ _=>zJ) q3 (gC1 l hs);subst this;rw[e,wS q1 hr q5]
 ·exact absurd ⟨⟨hr,hl⟩,l,by rw[hsg];exact gC1 l hs,hl,fun _=>Iff.rfl⟩ (hno l)
theorem kD2 (d:Dy) (h: -53≤d.1∧d.1≤53∧0≤d.2.1∧d.2.1≤6):isDy (dt d) d:=by
 obtain⟨n,w,⟨⟩⟩:=d;dsimp only at h;have hw2:(wd.getD w.toNat []).length=2:=(show ∀s∈wd,s.length=2 by decide) _ (yC [] (by rw[wd7];omega));have hp:posF 0 wd (wd.getD w.toNat [])=w:=by
  have:w=0∨w=1∨w=2∨w=3∨w=4∨w=5∨w=6:=by omega
  rcases this with rfl | rfl | rfl | rfl | rfl | rfl | rfl <;> rfl
 obtain⟨a,ha⟩:∃a,a=(if n=0 then []else Lib.itoa n):=⟨_,rfl⟩
 have e:dt (n,w,())=a++wd.getD w.toNat []:=by unfold dt;rw[ha]
 have hl:(a++wd.getD w.toNat []).length-2=a.length:=by rw[pJ2,hw2];omega
 show isD (dt (n,w,())) n w;rw[e];unfold isD;rw[hl,qL2,uL2,hp];refine⟨by rw[pJ2];omega,rfl,h.2.2.1,?_⟩;by_cases c:n=0
 ·rw[if_pos c]at ha;exact .inl ⟨ha,c⟩
 ·rw[if_neg c]at ha;refine .inr ⟨?_,⟨ha,by omega,by omega⟩,c⟩;rw[ha];intro q;by_cases hn:n<0
  ·rw[cG hn]at q;cases q
  ·rw[iF hn]at q;exact D_ne _ q
theorem kE1 :∀(l:List Dy),iP l→All2 isDy (l.map dt) l
 | [],_=>trivial
 | n::l,h=>⟨kD2 n (h n (by simp)),kE1 l fun x hx=>h x (wJ2 _ hx)⟩
theorem jG2 (c:UInt8) (h:∀s∈wd,c∉s) (i:Nat):c∉wd.getD i []:=by
 by_cases hi2:i<wd.length
 ·exact h _ (yC [] hi2)
 ·rw[qU hi2];simp
theorem iI2 (c:UInt8) (h:∀s∈fw,c∉s) (i:Nat):c∉fw.getD i []:=by
 by_cases hi2:i<fw.length
 ·exact h _ (yC [] hi2)
 ·rw[qU hi2];simp
theorem mG2 (c:UInt8) (h1:c≠45) (h2:¬dig c) (h:∀s∈wd,c∉s) (d:Dy):c∉dt d:=by
 unfold dt;rw[gK2];rintro(q | q)
 ·split at q
  ·simp at q
  ·exact mR h1 h2 q
 ·exact jG2 c h _ q
theorem hZ1 (l:List Dy) (hn:l≠[]) (hr:gP l) (hl:l.length≤60) (hs:iP l):zC.f (mkS (jn 44 (l.map dt)))=some (l,true,()):=by
 have hlen:=uW l hl hs
 have hsg:=uH1 44 (l.map dt) (by simpa using hn) fun s h=>by obtain⟨n,_,e⟩:=nK2.1 h;rw[←e];exact mG2 44 (by decide) (by unfold dig;decide) (by decide) n
 have hu:∀(a:List UInt8) (b c:Dy),isDy a b→isDy a c→b=c:=fun a b c h g=>by obtain⟨e1,e2⟩:=fR h g;obtain⟨b1,b2,⟨⟩⟩:=b;obtain⟨c1,c2,⟨⟩⟩:=c;dsimp only at e1 e2;rw[e1,e2]
 rcases iU (jn 44 (l.map dt)) (by omega)with⟨r,⟨⟨q1,_⟩,ns,q3,_,q5⟩,e,_⟩ | ⟨hno,_⟩
 ·rw[hsg]at q3;have:=qX (R:=isDy) hu q3 (kE1 l hs);subst this;rw[e,fQ q1 hr q5]
 ·exact absurd ⟨⟨hr,hl⟩,l,by rw[hsg];exact kE1 l hs,hl,fun _=>Iff.rfl⟩ (hno l)
theorem bP1 (l:List Dy) (hn:l≠[]) (hr:gP l) (hl:l.length≤60) (hs:iP l):Good ([66,89,68,65,89]++61::jn 44 (l.map dt)) (.dy l):=by refine⟨_,rfl,by show(61:UInt8)∉[66,89,68,65,89];decide,fun r=>?_⟩;show iA.f r (mkS [66,89,68,65,89]) _=_;rw[tE1,hZ1 l hn hr hl hs];rfl
theorem hF1 (l:List Int) (hn:l≠[]) (hr:lM l) (hl:l.length≤60) (hs:small l):Good ([66,89,77,79,78,84,72]++61::jn 44 (l.map Lib.itoa)) (.mo l):=by refine⟨_,rfl,by show(61:UInt8)∉[66,89,77,79,78,84,72];decide,fun r=>?_⟩;show iA.f r (mkS [66,89,77,79,78,84,72]) _=_;rw[kW,rL l hn hr hl hs];rfl
theorem lD1 (l:List Int) (hn:l≠[]) (hr:lM l) (hl:l.length≤60) (hs:small l):Good ([66,89,87,69,69,75,78,79]++61::jn 44 (l.map Lib.itoa)) (.we l):=by refine⟨_,rfl,by show(61:UInt8)∉[66,89,87,69,69,75,78,79];decide,fun r=>?_⟩;show iA.f r (mkS [66,89,87,69,69,75,78,79]) _=_;rw[gU,rL l hn hr hl hs];rfl
theorem uY (l:List Int) (hn:l≠[]) (hr:lM l) (hl:l.length≤60) (hs:small l):Good ([66,89,89,69,65,82,68,65,89]++61::jn 44 (l.map Lib.itoa)) (.yd l):=by refine⟨_,rfl,by show(61:UInt8)∉[66,89,89,69,65,82,68,65,89];decide,fun r=>?_⟩;show iA.f r (mkS [66,89,89,69,65,82,68,65,89]) _=_;rw[pQ,rL l hn hr hl hs];rfl
theorem gX (l:List Int) (hn:l≠[]) (hr:lM l) (hl:l.length≤60) (hs:small l):Good ([66,89,77,79,78,84,72,68,65,89]++61::jn 44 (l.map Lib.itoa)) (.md l):=by refine⟨_,rfl,by show(61:UInt8)∉[66,89,77,79,78,84,72,68,65,89];decide,fun r=>?_⟩;show iA.f r (mkS [66,89,77,79,78,84,72,68,65,89]) _=_;rw[eP,rL l hn hr hl hs];rfl
theorem fI1 (l:List Int) (hn:l≠[]) (hr:lM l) (hl:l.length≤60) (hs:small l):Good ([66,89,72,79,85,82]++61::jn 44 (l.map Lib.itoa)) (.ho l):=by refine⟨_,rfl,by show(61:UInt8)∉[66,89,72,79,85,82];decide,fun r=>?_⟩;show iA.f r (mkS [66,89,72,79,85,82]) _=_;rw[sZ,rL l hn hr hl hs];rfl
theorem tD1 (l:List Int) (hn:l≠[]) (hr:lM l) (hl:l.length≤60) (hs:small l):Good ([66,89,77,73,78,85,84,69]++61::jn 44 (l.map Lib.itoa)) (.mi l):=by refine⟨_,rfl,by show(61:UInt8)∉[66,89,77,73,78,85,84,69];decide,fun r=>?_⟩;show iA.f r (mkS [66,89,77,73,78,85,84,69]) _=_;rw[iT,rL l hn hr hl hs];rfl
theorem fE1 (l:List Int) (hn:l≠[]) (hr:lM l) (hl:l.length≤60) (hs:small l):Good ([66,89,83,69,67,79,78,68]++61::jn 44 (l.map Lib.itoa)) (.se l):=by refine⟨_,rfl,by show(61:UInt8)∉[66,89,83,69,67,79,78,68];decide,fun r=>?_⟩;show iA.f r (mkS [66,89,83,69,67,79,78,68]) _=_;rw[vT,rL l hn hr hl hs];rfl
theorem bD1 (l:List Int) (hn:l≠[]) (hr:lM l) (hl:l.length≤60) (hs:small l):Good ([66,89,83,69,84,80,79,83]++61::jn 44 (l.map Lib.itoa)) (.po l):=by refine⟨_,rfl,by show(61:UInt8)∉[66,89,83,69,84,80,79,83];decide,fun r=>?_⟩;show iA.f r (mkS [66,89,83,69,84,80,79,83]) _=_;rw[pT,rL l hn hr hl hs];rfl
section
variable (f iv ct un wk : Int) (en : Bool) (mo we yd md : List Int) (dy : List Dy) (ho mi se po : List Int)
theorem vN1 (hp:mayP f iv ct un wk en mo we yd md dy ho mi se po):All2 Good (uR f iv ct un wk en mo we yd md dy ho mi se po) (ups f iv ct un wk en mo we yd md dy ho mi se po):=by obtain⟨b1,b2,b3,bmo,bwe,byd,bmd,bdy,bho,bmi,bse,bpo⟩:=aG1 f iv ct un wk en mo we yd md dy ho mi se po hp;obtain⟨u1,u2,u3⟩:=wM un b3;unfold uR ups rest;refine⟨mP1 f (by omega) (by omega),?_⟩;refine All2.append (qH _ _ _ _ fun hb=>lE1 iv (by omega) (by omega)) ?_;refine All2.append (qH _ _ _ _ fun hb=>zN1 ct (by omega) (by omega)) ?_;refine All2.append (qH _ _ _ _ fun hb=>yM1 un _ u3) ?_;refine All2.append (qH _ _ _ _ fun hb=>hF1 mo (by intro q;rw[q]at hb;exact absurd hb (by decide)) (fL hp.2.1.1) bmo.1 bmo.2) ?_;refine All2.append (qH _ _ _ _ fun hb=>lD1 we (by intro q;rw[q]at hb;exact absurd hb (by decide)) (fL hp.2.1.2.1) bwe.1 bwe.2) ?_;refine All2.append (qH _ _ _ _ fun hb=>uY yd (by intro q;rw[q]at hb;exact absurd hb (by decide)) (fL hp.2.1.2.2.1) byd.1 byd.2) ?_;refine All2.append (qH _ _ _ _ fun hb=>gX md (by intro q;rw[q]at hb;exact absurd hb (by decide)) (fL hp.2.1.2.2.2.1) bmd.1 bmd.2) ?_;refine All2.append (qH _ _ _ _ fun hb=>bP1 dy (by intro q;rw[q]at hb;exact absurd hb (by decide)) (tU1 hp.2.1.2.2.2.2.2.2.2.2.1) bdy.1 bdy.2) ?_;refine All2.append (qH _ _ _ _ fun hb=>fI1 ho (by intro q;rw[q]at hb;exact absurd hb (by decide)) (fL hp.2.1.2.2.2.2.1) bho.1 bho.2) ?_;refine All2.append (qH _ _ _ _ fun hb=>tD1 mi (by intro q;rw[q]at hb;exact absurd hb (by decide)) (fL hp.2.1.2.2.2.2.2.1) bmi.1 bmi.2) ?_;refine All2.append (qH _ _ _ _ fun hb=>fE1 se (by intro q;rw[q]at hb;exact absurd hb (by decide)) (fL hp.2.1.2.2.2.2.2.2.1) bse.1 bse.2) ?_;refine All2.append (qH _ _ _ _ fun hb=>bD1 po (by intro q;rw[q]at hb;exact absurd hb (by decide)) (fL hp.2.1.2.2.2.2.2.2.2.1) bpo.1 bpo.2) ?_;exact qH _ _ _ _ fun hb=>rQ1 wk (by omega) (by omega)
theorem gX1 :(keys (ups f iv ct un wk en mo we yd md dy ho mi se po)).Nodup∧FREQ∈keys (ups f iv ct un wk en mo we yd md dy ho mi se po):=by
 constructor
 ·have h:(keys (ups f iv ct un wk en mo we yd md dy ho mi se po)).Sublist ([70,82,69,81]::([[73,78,84,69,82,86,65,76]]++([[67,79,85,78,84]]++([[85,78,84,73,76]]++([[66,89,77,79,78,84,72]]++([[66,89,87,69,69,75,78,79]]++([[66,89,89,69,65,82,68,65,89]]++([[66,89,77,79,78,84,72,68,65,89]]++([[66,89,68,65,89]]++([[66,89,72,79,85,82]]++([[66,89,77,73,78,85,84,69]]++([[66,89,83,69,67,79,78,68]]++([[66,89,83,69,84,80,79,83]]++([[87,75,83,84]])))))))))))))):=by unfold ups;refine List.Sublist.cons_cons _ ?_;simp only[keys,hK2];refine List.Sublist.append (rH _ _) ?_;refine List.Sublist.append (rH _ _) ?_;refine List.Sublist.append (rH _ _) ?_;refine List.Sublist.append (rH _ _) ?_;refine List.Sublist.append (rH _ _) ?_;refine List.Sublist.append (rH _ _) ?_;refine List.Sublist.append (rH _ _) ?_;refine List.Sublist.append (rH _ _) ?_;refine List.Sublist.append (rH _ _) ?_;refine List.Sublist.append (rH _ _) ?_;refine List.Sublist.append (rH _ _) ?_;refine List.Sublist.append (rH _ _) ?_;exact rH _ _
  exact List.Pairwise.sublist h (by decide)
 ·exact zJ2 ..
theorem gH2 (hp:mayP f iv ct un wk en mo we yd md dy ho mi se po):pJ (0,1,0,0,0,false,[],[],[],[],[],[],[],[],[],()) (ups f iv ct un wk en mo we yd md dy ho mi se po)=(f,iv,ct,un,wk,en,mo,we,yd,md,dy,ho,mi,se,po,()):=by
 have hun:en=false→un=0:=fun h=>hp.1.2.2 h
 unfold ups;show pJ (f,1,0,0,0,false,[],[],[],[],[],[],[],[],[],()) _=_;have a0:pJ (f,1,0,0,0,false,[],[],[],[],[],[],[],[],[],()) (optU (!decide (iv=1)) (.iv iv))=(f,iv,0,0,0,false,[],[],[],[],[],[],[],[],[],()):=by
   by_cases h:iv=1
   ·subst h;rfl
   ·simp only[dn h,optU,jL2,cond_true];rfl
 rw[uG,a0];have a1:pJ (f,iv,0,0,0,false,[],[],[],[],[],[],[],[],[],()) (optU (!decide (ct=0)) (.ct ct))=(f,iv,ct,0,0,false,[],[],[],[],[],[],[],[],[],()):=by
   by_cases h:ct=0
   ·subst h;rfl
   ·simp only[dn h,optU,jL2,cond_true];rfl
 rw[uG,a1];have a2:pJ (f,iv,ct,0,0,false,[],[],[],[],[],[],[],[],[],()) (optU (en) (.un un))=(f,iv,ct,un,0,en,[],[],[],[],[],[],[],[],[],()):=by
   cases en with
   | false=>rw[hun rfl];rfl
   | true=>rfl
 rw[uG,a2];have a3:pJ (f,iv,ct,un,0,en,[],[],[],[],[],[],[],[],[],()) (optU (decide ((mo.length:Int)>0)) (.mo mo))=(f,iv,ct,un,0,en,mo,[],[],[],[],[],[],[],[],()):=by
   cases mo with
   | nil=>rfl
   | cons a l=>
    have h:(((a::l).length:Nat):Int)>0:=by rw[yJ2];omega
    simp only[dp h,optU,cond_true];rfl
 rw[uG,a3];have a4:pJ (f,iv,ct,un,0,en,mo,[],[],[],[],[],[],[],[],()) (optU (decide ((we.length:Int)>0)) (.we we))=(f,iv,ct,un,0,en,mo,we,[],[],[],[],[],[],[],()):=by
   cases we with
   | nil=>rfl
   | cons a l=>
    have h:(((a::l).length:Nat):Int)>0:=by rw[yJ2];omega
    simp only[dp h,optU,cond_true];rfl
 rw[uG,a4];have a5:pJ (f,iv,ct,un,0,en,mo,we,[],[],[],[],[],[],[],()) (optU (decide ((yd.length:Int)>0)) (.yd yd))=(f,iv,ct,un,0,en,mo,we,yd,[],[],[],[],[],[],()):=by
   cases yd with
   | nil=>rfl
   | cons a l=>
    have h:(((a::l).length:Nat):Int)>0:=by rw[yJ2];omega
    simp only[dp h,optU,cond_true];rfl
 rw[uG,a5];have a6:pJ (f,iv,ct,un,0,en,mo,we,yd,[],[],[],[],[],[],()) (optU (decide ((md.length:Int)>0)) (.md md))=(f,iv,ct,un,0,en,mo,we,yd,md,[],[],[],[],[],()):=by
   cases md with
   | nil=>rfl
   | cons a l=>
    have h:(((a::l).length:Nat):Int)>0:=by rw[yJ2];omega
    simp only[dp h,optU,cond_true];rfl
 rw[uG,a6];have a7:pJ (f,iv,ct,un,0,en,mo,we,yd,md,[],[],[],[],[],()) (optU (decide ((dy.length:Int)>0)) (.dy dy))=(f,iv,ct,un,0,en,mo,we,yd,md,dy,[],[],[],[],()):=by
   cases dy with
   | nil=>rfl
   | cons a l=>
    have h:(((a::l).length:Nat):Int)>0:=by rw[yJ2];omega
    simp only[dp h,optU,cond_true];rfl
 rw[uG,a7];have a8:pJ (f,iv,ct,un,0,en,mo,we,yd,md,dy,[],[],[],[],()) (optU (decide ((ho.length:Int)>0)) (.ho ho))=(f,iv,ct,un,0,en,mo,we,yd,md,dy,ho,[],[],[],()):=by
   cases ho with
   | nil=>rfl
   | cons a l=>
    have h:(((a::l).length:Nat):Int)>0:=by rw[yJ2];omega
    simp only[dp h,optU,cond_true];rfl
 rw[uG,a8];have a9:pJ (f,iv,ct,un,0,en,mo,we,yd,md,dy,ho,[],[],[],()) (optU (decide ((mi.length:Int)>0)) (.mi mi))=(f,iv,ct,un,0,en,mo,we,yd,md,dy,ho,mi,[],[],()):=by
   cases mi with
   | nil=>rfl
   | cons a l=>
    have h:(((a::l).length:Nat):Int)>0:=by rw[yJ2];omega
    simp only[dp h,optU,cond_true];rfl
 rw[uG,a9];have a10:pJ (f,iv,ct,un,0,en,mo,we,yd,md,dy,ho,mi,[],[],()) (optU (decide ((se.length:Int)>0)) (.se se))=(f,iv,ct,un,0,en,mo,we,yd,md,dy,ho,mi,se,[],()):=by
   cases se with
   | nil=>rfl
   | cons a l=>
    have h:(((a::l).length:Nat):Int)>0:=by rw[yJ2];omega
    simp only[dp h,optU,cond_true];rfl
 rw[uG,a10];have a11:pJ (f,iv,ct,un,0,en,mo,we,yd,md,dy,ho,mi,se,[],()) (optU (decide ((po.length:Int)>0)) (.po po))=(f,iv,ct,un,0,en,mo,we,yd,md,dy,ho,mi,se,po,()):=by
   cases po with
   | nil=>rfl
   | cons a l=>
    have h:(((a::l).length:Nat):Int)>0:=by rw[yJ2];omega
    simp only[dp h,optU,cond_true];rfl
 rw[uG,a11];have a12:pJ (f,iv,ct,un,0,en,mo,we,yd,md,dy,ho,mi,se,po,()) (optU (!decide (wk=0)) (.wk wk))=(f,iv,ct,un,wk,en,mo,we,yd,md,dy,ho,mi,se,po,()):=by
   by_cases h:wk=0
   ·subst h;rfl
   ·simp only[dn h,optU,jL2,cond_true];rfl
 exact a12
end
theorem wL {b:Bool} {name v:List UInt8} (hn:(59:UInt8)∉name) (hv:b=true→(59:UInt8)∉v):∀s∈opt b name v,(59:UInt8)∉s:=by
 cases b with
 | false=>intro s h;cases h
 | true=>
  intro s h;have h:s=name++61::v:=vK2.1 h;rw[h,gK2,uJ2];rintro(q | q | q)
  ·exact hn q
  ·exact absurd q (by decide)
  ·exact hv rfl q
theorem xC2 {c d:UInt8} (hcd:c≠d):∀l:List (List UInt8),(∀s∈l,c∉s)→c∉jn d l
 | [],_=>by simp[jn]
 | [a],h=>h a (by simp)
 | a::b::l,h=>by
  show c∉a++d::jn d (b::l);rw[gK2,uJ2];rintro(q | q | q)
  ·exact h a (by simp) q
  ·exact hcd q
  ·exact xC2 hcd (b::l) (fun s hs=>h s (wJ2 _ hs)) q
theorem uT (l:List Int):(59:UInt8)∉jn 44 (l.map Lib.itoa):=xC2 (by decide) _ fun s h=>by obtain⟨n,_,e⟩:=nK2.1 h;rw[←e];exact mR (by decide) (by unfold dig;decide)
theorem uG2 (l:List Dy):(59:UInt8)∉jn 44 (l.map dt):=xC2 (by decide) _ fun s h=>by obtain⟨n,_,e⟩:=nK2.1 h;rw[←e];exact mG2 59 (by decide) (by unfold dig;decide) (by decide) n
section
variable (f iv ct un wk : Int) (en : Bool) (mo we yd md : List Int) (dy : List Dy) (ho mi se po : List Int)
theorem jW1 (hp:mayP f iv ct un wk en mo we yd md dy ho mi se po):∀s∈uR f iv ct un wk en mo we yd md dy ho mi se po,(59:UInt8)∉s:=by
 obtain⟨b1,b2,b3,_⟩:=aG1 f iv ct un wk en mo we yd md dy ho mi se po hp
 have hu:(59:UInt8)∉utx un:=fun q=>by
  rcases(sY un b3).2.1 _ q with e | e
  ·exact absurd e (by decide)
  ·exact absurd e (by unfold dig;decide)
 have hi1:(59:UInt8)∉Lib.itoa iv:=mR (by decide) (by unfold dig;decide);have hi2:(59:UInt8)∉Lib.itoa ct:=mR (by decide) (by unfold dig;decide);have hw:=jG2 59 (by decide) wk.toNat;have hf:=iI2 59 (by decide) (f-1).toNat;intro s hs;unfold uR rest at hs;rcases uJ2.1 hs with e | hs
 ·rw[e];intro q;rcases gK2.1 q with q | q
  ·exact absurd q (by decide)
  rcases uJ2.1 q with q | q
  ·exact absurd q (by decide)
  ·exact hf q
 ·rcases gK2.1 hs with hs | hs
  ·exact wL (by decide) (fun _=>hi1) s hs
  rcases gK2.1 hs with hs | hs
  ·exact wL (by decide) (fun _=>hi2) s hs
  rcases gK2.1 hs with hs | hs
  ·exact wL (by decide) (fun _=>hu) s hs
  rcases gK2.1 hs with hs | hs
  ·exact wL (by decide) (fun _=>uT _) s hs
  rcases gK2.1 hs with hs | hs
  ·exact wL (by decide) (fun _=>uT _) s hs
  rcases gK2.1 hs with hs | hs
  ·exact wL (by decide) (fun _=>uT _) s hs
  rcases gK2.1 hs with hs | hs
  ·exact wL (by decide) (fun _=>uT _) s hs
  rcases gK2.1 hs with hs | hs
  ·exact wL (by decide) (fun _=>uG2 _) s hs
  rcases gK2.1 hs with hs | hs
  ·exact wL (by decide) (fun _=>uT _) s hs
  rcases gK2.1 hs with hs | hs
  ·exact wL (by decide) (fun _=>uT _) s hs
  rcases gK2.1 hs with hs | hs
  ·exact wL (by decide) (fun _=>uT _) s hs
  rcases gK2.1 hs with hs | hs
  ·exact wL (by decide) (fun _=>uT _) s hs
  ·exact wL (by decide) (fun _=>hw) s hs
end
theorem rV {r:Rl} (hs:jO r.2.2.2.2.2.2.1 r.2.2.2.2.2.2.2.1 r.2.2.2.2.2.2.2.2.1 r.2.2.2.2.2.2.2.2.2.1 r.2.2.2.2.2.2.2.2.2.2.1 r.2.2.2.2.2.2.2.2.2.2.2.1 r.2.2.2.2.2.2.2.2.2.2.2.2.1 r.2.2.2.2.2.2.2.2.2.2.2.2.2.1 r.2.2.2.2.2.2.2.2.2.2.2.2.2.2.1) (hM:vA.f r=some (true,())):mayP r.1 r.2.1 r.2.2.1 r.2.2.2.1 r.2.2.2.2.1 r.2.2.2.2.2.1 r.2.2.2.2.2.2.1 r.2.2.2.2.2.2.2.1 r.2.2.2.2.2.2.2.2.1 r.2.2.2.2.2.2.2.2.2.1 r.2.2.2.2.2.2.2.2.2.2.1 r.2.2.2.2.2.2.2.2.2.2.2.1 r.2.2.2.2.2.2.2.2.2.2.2.2.1 r.2.2.2.2.2.2.2.2.2.2.2.2.2.1 r.2.2.2.2.2.2.2.2.2.2.2.2.2.2.1:=by
 have g:=sV r.1 r.2.1 r.2.2.1 r.2.2.2.1 r.2.2.2.2.1 r.2.2.2.2.2.1 r.2.2.2.2.2.2.1 r.2.2.2.2.2.2.2.1 r.2.2.2.2.2.2.2.2.1 r.2.2.2.2.2.2.2.2.2.1 r.2.2.2.2.2.2.2.2.2.2.1 r.2.2.2.2.2.2.2.2.2.2.2.1 r.2.2.2.2.2.2.2.2.2.2.2.2.1 r.2.2.2.2.2.2.2.2.2.2.2.2.2.1 r.2.2.2.2.2.2.2.2.2.2.2.2.2.2.1 hs;refine Classical.byContradiction fun q=>?_
 have h1:vA.f r=some (false,()):=g.2 q;rw[hM]at h1;cases h1
noncomputable def pts (r:Rl):List (List UInt8):=uR r.1 r.2.1 r.2.2.1 r.2.2.2.1 r.2.2.2.2.1 r.2.2.2.2.2.1 r.2.2.2.2.2.2.1 r.2.2.2.2.2.2.2.1 r.2.2.2.2.2.2.2.2.1 r.2.2.2.2.2.2.2.2.2.1 r.2.2.2.2.2.2.2.2.2.2.1 r.2.2.2.2.2.2.2.2.2.2.2.1 r.2.2.2.2.2.2.2.2.2.2.2.2.1 r.2.2.2.2.2.2.2.2.2.2.2.2.2.1 r.2.2.2.2.2.2.2.2.2.2.2.2.2.2.1
def tK (r:Rl):Prop:=jO r.2.2.2.2.2.2.1 r.2.2.2.2.2.2.2.1 r.2.2.2.2.2.2.2.2.1 r.2.2.2.2.2.2.2.2.2.1 r.2.2.2.2.2.2.2.2.2.2.1 r.2.2.2.2.2.2.2.2.2.2.2.1 r.2.2.2.2.2.2.2.2.2.2.2.2.1 r.2.2.2.2.2.2.2.2.2.2.2.2.2.1 r.2.2.2.2.2.2.2.2.2.2.2.2.2.2.1
theorem wX (r:Rl) (hs:tK r) (hM:vA.f r=some (true,())):xG.f r=some (mkS (jn 59 (pts r)),0,())∧(jn 59 (pts r)).length≤4096:=by have hp:=rV hs hM;obtain⟨f,iv,ct,un,wk,en,mo,we,yd,md,dy,ho,mi,se,po,⟨⟩⟩:=r;dsimp only at hp;exact fA1 f iv ct un wk en mo we yd md dy ho mi se po hM hp
theorem lZ1 (r:Rl) (hs:tK r) (hM:vA.f r=some (true,())):
  xG.f r=some (mkS (jn 59 (pts r)),0,())∧(jn 59 (pts r)).length≤4096∧pts r≠[]∧(∀s∈pts r,(59:UInt8)∉s)∧sh60 r ∧
   ∃us,All2 Good (pts r) us∧(keys us).Nodup∧FREQ∈keys us∧pJ (0,1,0,0,0,false,[],[],[],[],[],[],[],[],[],()) us=r:=by
 have hp:=rV hs hM;obtain⟨f,iv,ct,un,wk,en,mo,we,yd,md,dy,ho,mi,se,po,⟨⟩⟩:=r;dsimp only at hp;obtain⟨h1,h2⟩:=fA1 f iv ct un wk en mo we yd md dy ho mi se po hM hp;have hk:=gX1 f iv ct un wk en mo we yd md dy ho mi se po;obtain⟨_,_,_,b4,b5,b6,b7,b8,b9,b10,b11,b12⟩:=aG1 f iv ct un wk en mo we yd md dy ho mi se po hp
 exact⟨h1,h2,by unfold pts uR;simp,jW1 f iv ct un wk en mo we yd md dy ho mi se po hp,⟨b4.1,b5.1,b6.1,b7.1,b8.1,b9.1,b10.1,b11.1,b12.1⟩,
  ups f iv ct un wk en mo we yd md dy ho mi se po,vN1 f iv ct un wk en mo we yd md dy ho mi se po hp,hk.1,hk.2,gH2 f iv ct un wk en mo we yd md dy ho mi se po hp⟩
theorem xW1 (r:Rl) (hM:vA.f r=some (false,())):xG.f r=some (mkS [],1,()):=by have hM:vA.f (r.1,r.2.1,r.2.2.1,r.2.2.2.1,r.2.2.2.2.1,r.2.2.2.2.2.1,r.2.2.2.2.2.2.1,r.2.2.2.2.2.2.2.1,r.2.2.2.2.2.2.2.2.1,r.2.2.2.2.2.2.2.2.2.1,r.2.2.2.2.2.2.2.2.2.2.1,r.2.2.2.2.2.2.2.2.2.2.2.1,r.2.2.2.2.2.2.2.2.2.2.2.2.1,r.2.2.2.2.2.2.2.2.2.2.2.2.2.1,r.2.2.2.2.2.2.2.2.2.2.2.2.2.2.1,())=some (false,()):=hM;rw[xG.f_eq,hM];rfl
theorem eqI2 (a b:List Int) (ha:a.length≤1000000):tA.f a b=some (decide (a=b),()):=by
 rw[tA.f_eq];by_cases hl:a.length=b.length
 ·have key:∀(k i:Nat),a.length-i=k→i≤a.length→tA.l1 a b a.length i=some (decide (a.drop i=b.drop i),()):=by
   intro k
   induction k with
   | zero=>
    intro i hk hia;have e1:a.drop i=[]:=gM2 (by omega);have e2:b.drop i=[]:=gM2 (by omega);rw[tA.l1_eq,e1,e2];simp(disch:=omega)only[ss]
   | succ k ih=>
    intro i hk hia;have h1:i<a.length:=by omega
    have h2:i<b.length:=by omega
    have:=ih (i+1) (by omega) (by omega);rw[tA.l1_eq,qC 0 h1,qC 0 h2];by_cases c:a.getD i 0=b.getD i 0
    ·have e:decide (a.getD i 0::a.drop (i+1)=b.getD i 0::b.drop (i+1))=decide (a.drop (i+1)=b.drop (i+1)):=decide_eq_decide.2 ⟨fun h=>(dM2 h).2,fun h=>by rw[c,h]⟩;rw[e];simp(disch:=omega)only[ss];exact this
    ·have e:decide (a.getD i 0::a.drop (i+1)=b.getD i 0::b.drop (i+1))=false:=dn fun h=>c (dM2 h).1
     rw[e];simp(disch:=omega)only[ss]
  have:=key _ 0 rfl (xJ2 _);rw[fK2,oK2,oK2]at this;simp(disch:=omega)only[ss,this]
 ·rw[dn (show ¬a=b from fun h=>hl (by rw[h]))];simp(disch:=omega)only[ss]
theorem eqD2 (a b:List Dy) (ha:a.length≤1000000):uA.f a b=some (decide (a=b),()):=by
 rw[uA.f_eq];by_cases hl:a.length=b.length
 ·have key:∀(k i:Nat),a.length-i=k→i≤a.length→uA.l1 a b a.length i=some (decide (a.drop i=b.drop i),()):=by
   intro k
   induction k with
   | zero=>
    intro i hk hia;have e1:a.drop i=[]:=gM2 (by omega);have e2:b.drop i=[]:=gM2 (by omega);rw[uA.l1_eq,e1,e2];simp(disch:=omega)only[ss]
   | succ k ih=>
    intro i hk hia;have h1:i<a.length:=by omega
    have h2:i<b.length:=by omega
    have:=ih (i+1) (by omega) (by omega);rw[uA.l1_eq,qC ((0,0,()):Dy) h1,qC ((0,0,()):Dy) h2];generalize hx:a.getD i ((0,0,()):Dy)=x;generalize hy:b.getD i ((0,0,()):Dy)=y;have hx':a.getD i ((0,0,()):Int×Int×Unit)=x:=hx;have hy':b.getD i ((0,0,()):Int×Int×Unit)=y:=hy;obtain⟨x1,x2,⟨⟩⟩:=x;obtain⟨y1,y2,⟨⟩⟩:=y;by_cases c:x1=y1∧x2=y2
    ·obtain⟨rfl,rfl⟩:=c;have e:decide ((x1,x2,())::a.drop (i+1)=(x1,x2,())::b.drop (i+1))=decide (a.drop (i+1)=b.drop (i+1)):=decide_eq_decide.2 ⟨fun h=>(dM2 h).2,fun h=>by rw[h]⟩;rw[e];simp(disch:=omega)only[ss,hx',hy'];exact this
    ·have e:decide ((x1,x2,())::a.drop (i+1)=(y1,y2,())::b.drop (i+1))=false:=dn fun h=>c (by have:=(dM2 h).1;cases this;exact⟨rfl,rfl⟩)
     rw[e];have e2:(decide (x1=y1)&&decide (x2=y2))=false:=by
      by_cases c1:x1=y1
      ·rw[dn (show ¬x2=y2 from fun h=>c ⟨c1,h⟩),Bool.and_false]
      ·rw[dn c1,Bool.false_and]
     simp(disch:=omega)only[ss,hx',hy',e2]
  have:=key _ 0 rfl (xJ2 _);rw[fK2,oK2,oK2]at this;simp(disch:=omega)only[ss,this]
 ·rw[dn (show ¬a=b from fun h=>hl (by rw[h]))];simp(disch:=omega)only[ss]
theorem jS (r q:Rl) (hr:tK r):sE (yD.f r q) (r=q):=by
 unfold tK jO at hr;obtain⟨f,iv,ct,un,wk,en,mo,we,yd,md,dy,ho,mi,se,po,⟨⟩⟩:=r;obtain⟨f',iv',ct',un',wk',en',mo',we',yd',md',dy',ho',mi',se',po',⟨⟩⟩:=q;dsimp only at hr;obtain⟨h1,h2,h3,h4,h5,h6,h7,h8,h9⟩:=hr;have no:∀{p:Prop},¬p→sE (some (false,())) p:=fun h=>⟨false,rfl,by simp[h]⟩
 rw[yD.f_eq];by_cases c:f=f'
 ·by_cases c1:iv=iv'
  ·by_cases c2:ct=ct'
   ·by_cases c3:un=un'
    ·by_cases c4:wk=wk'
     ·by_cases c5:en=en'
      ·subst c c1 c2 c3 c4 c5;simp(disch:=omega)only[ss,beq_self_eq_true];rw[yD.l1_eq,cond_false,eqI2 mo mo' (by omega),eqI2 we we' (by omega),eqI2 yd yd' (by omega),eqI2 md md' (by omega),eqD2 dy dy' (by omega),eqI2 ho ho' (by omega),eqI2 mi mi' (by omega),eqI2 se se' (by omega),eqI2 po po' (by omega)];simp only[qJ2];by_cases d1:mo=mo'
       ·by_cases d2:we=we'
        ·by_cases d3:yd=yd'
         ·by_cases d4:md=md'
          ·by_cases d5:dy=dy'
           ·by_cases d6:ho=ho'
            ·by_cases d7:mi=mi'
             ·by_cases d8:se=se'
              ·subst d1 d2 d3 d4 d5 d6 d7 d8;simp only[decide_true,cond_true];refine⟨_,rfl,?_⟩;rw[decide_eq_true_iff];exact⟨fun h=>by rw[h],fun h=>by cases h;rfl⟩
              ·simp only[dp d1,dp d2,dp d3,dp d4,dp d5,dp d6,dp d7,dn d8,cond_true,cond_false];exact no fun h=>d8 (by cases h;rfl)
             ·simp only[dp d1,dp d2,dp d3,dp d4,dp d5,dp d6,dn d7,cond_true,cond_false];exact no fun h=>d7 (by cases h;rfl)
            ·simp only[dp d1,dp d2,dp d3,dp d4,dp d5,dn d6,cond_true,cond_false];exact no fun h=>d6 (by cases h;rfl)
           ·simp only[dp d1,dp d2,dp d3,dp d4,dn d5,cond_true,cond_false];exact no fun h=>d5 (by cases h;rfl)
          ·simp only[dp d1,dp d2,dp d3,dn d4,cond_true,cond_false];exact no fun h=>d4 (by cases h;rfl)
         ·simp only[dp d1,dp d2,dn d3,cond_true,cond_false];exact no fun h=>d3 (by cases h;rfl)
        ·simp only[dp d1,dn d2,cond_true,cond_false];exact no fun h=>d2 (by cases h;rfl)
       ·simp only[dn d1,cond_false];exact no fun h=>d1 (by cases h;rfl)
      ·have e:(en==en')=false:=by cases en <;> cases en' <;> first | rfl | exact absurd rfl c5
       simp(disch:=omega)only[ss,e,yD.l1_eq];exact no fun h=>c5 (by cases h;rfl)
     ·simp(disch:=omega)only[ss,yD.l1_eq];exact no fun h=>c4 (by cases h;rfl)
    ·simp(disch:=omega)only[ss,yD.l1_eq];exact no fun h=>c3 (by cases h;rfl)
   ·simp(disch:=omega)only[ss,yD.l1_eq];exact no fun h=>c2 (by cases h;rfl)
  ·simp(disch:=omega)only[ss,yD.l1_eq];exact no fun h=>c1 (by cases h;rfl)
 ·simp(disch:=omega)only[ss,yD.l1_eq];exact no fun h=>c (by cases h;rfl)
theorem oL {p:Prop} [Decidable p] {X:Option (Bool×Unit)} {Q:Prop} (h:p → ∃b,X=some (b,())∧(b=true→Q)):∃b,(bif decide p then X else some (false,()))=some (b,())∧(b=true→Q):=by
 by_cases c:p
 ·rw[dp c];exact h c
 ·rw[dn c];exact⟨false,rfl,fun q=>by cases q⟩
theorem xK1 (r:Rl):∃b,wG.f r=some (b,())∧(b=true→tK r):=by
 rw[wG.f_eq];refine oL fun h1=>oL fun h2=>oL fun h3=>oL fun h4=>oL fun h5=>oL fun h6=>oL fun h7=>oL fun h8=>⟨_,rfl,fun h9=>?_⟩
 rw[decide_eq_true_iff]at h9;unfold tK jO;omega
theorem gD2 {r:Rl} (h:sh60 r):tK r:=gB1 h
theorem vJ1 (s:List UInt8) (hs:s.length≤5000):
  (∃R:Rl,yA.f (mkS s)=some (R,0,0,())∧sh60 R∧vA.f R=some (true,()))∨(∃(n:Nat) (e:Int),yA.f (mkS s)=some (zR,(n:Int),e,())∧e≠0):=by
 obtain⟨R,n,e,h1,_,hR⟩:=vA1 s (by omega);by_cases c:s.length≤4096
 ·have p1:=cW1 s c;have hsl:=xM 59 s;obtain⟨a1,a2⟩:=gV1 (segs 59 s) (by omega) (fun t ht=>by have:=hsl.2 t ht;omega) _ 0 (0,1,0,0,0,false,[],[],[],[],[],[],[],[],[],()) [] rfl (xJ2 _) (aK2 _);by_cases g:∃us,All2 Good ((segs 59 s).drop 0) us∧(∀u∈us,u.key∉([]:List (List UInt8)))∧(keys us).Nodup
  ·obtain⟨us,g1,g2,g3⟩:=g;have x1:=a1 us g1 g2 g3;rw[p1,x1]at h1;unfold fin at x1 h1;by_cases hF:FREQ∈[]++keys us
   ·rw[if_pos hF]at x1 h1;cases hM:vA.f (pJ (0,1,0,0,0,false,[],[],[],[],[],[],[],[],[],()) us)with
    | none=>rw[hM]at h1;cases h1
    | some b=>
     obtain⟨b,⟨⟩⟩:=b;rw[hM]at x1 h1
     cases b with
     | true=>
      have h1:some (pJ (0,1,0,0,0,false,[],[],[],[],[],[],[],[],[],()) us,(0:Int),(0:Int),())=some (R,n,e,()):=h1;have e1:pJ (0,1,0,0,0,false,[],[],[],[],[],[],[],[],[],()) us=R:=(Prod.mk.inj (rK2 h1)).1;exact .inl ⟨_,p1.trans x1,e1 ▸ hR,hM⟩
     | false=>exact .inr ⟨0,1,p1.trans x1,by decide⟩
   ·rw[if_neg hF]at x1;exact .inr ⟨0,7,p1.trans x1,by decide⟩
  ·obtain⟨n1,x1⟩:=a2 g;exact .inr ⟨n1,4,p1.trans x1,by decide⟩
 ·refine .inr ⟨0,3,?_,by decide⟩;rw[yA.f_eq];simp(disch:=omega)only[ss,szS];rfl
end Go.GV.YtegmfagkklekaaaGreatDoor
