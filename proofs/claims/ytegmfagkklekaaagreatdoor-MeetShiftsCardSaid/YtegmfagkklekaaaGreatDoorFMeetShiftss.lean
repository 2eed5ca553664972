/-
Part of the words that MeetShifts is proved with: no statement of its own, no conditions.
-/
import Derived.Test.YtegmfagkklekaaaGreatDoorFMeetShiftsr
set_option linter.unusedVariables false
set_option linter.unusedSimpArgs false
namespace Go.GV.YtegmfagkklekaaaGreatDoor
open Go.Proofs
def dN (y m k w:Int):Int:=if k=5 then nthL y m w else nth1 y m w+7*(k-1)
theorem yR1 (y m k w:Int) (hy:1≤y∧y≤9999) (hm:1≤m∧m≤12) (hk:1≤k∧k≤5) (hw:0≤w∧w≤6):oB.f y m k w=some (dN y m k w,0,()):=by
 unfold dN;by_cases c:k=5
 ·subst c;rw[if_pos rfl];exact tW1 y m w hy hm hw
 ·rw[if_neg c,wO1 y m k w hy hm hk hw,oB.l2_eq];simp(disch:=omega)only[ss,oB.l3_eq]
theorem tK (y m k w:Int) (hm:1≤m∧m≤12) (hk:1≤k∧k≤5):1≤dN y m k w∧dN y m k w≤mlen y m:=by
 have h1:=kB1 y m w;have h2:=fL1 y m hm.1 hm.2;unfold dN nthL;split
 ·split <;> omega
 ·omega
def yAt (x:Yl) (y:Int):Int:=(fst_ y+dN y x.1 x.2.1 x.2.2.1-1+cum y x.1)*86400+x.2.2.2.1
def yrL (z:Zn) (y:Int):List Sp:=if z.2.2.1=[]∨y<z.2.2.2.1∨y>9999 then []else z.2.2.1.map fun x=>(yAt x y,x.2.2.2.2.1,())
theorem dK1 (y:Int) (hy:1≤y∧y≤9999) (l:List Yl) (hl:l.length≤1000) (hok:∀j,j<l.length→okY (l.getD j zYl)):∀(k i:Nat) (acc:List Sp),l.length-i=k→i≤l.length→acc.length≤i →
  qB.l2 y l (l.length:Int) (i:Int) acc=some (acc++(l.drop i).map fun x=>(yAt x y,x.2.2.2.2.1,()),()):=by
 have hlim:pC=17179869184:=rfl;intro k
 induction k with
 | zero=>
  intro i acc hk hi ha;have e:i=l.length:=by omega
  subst e;rw[qB.l2_eq,jY1];simp(disch:=omega)only[ss,List.map_nil,rX1]
 | succ k ih=>
  intro i acc hk hi ha;have hlt:i<l.length:=by omega
  have ho:=hok i hlt;rw[pB zYl hlt,wX1];have hn:=yR1 y (l.getD i zYl).1 (l.getD i zYl).2.1 (l.getD i zYl).2.2.1 hy (by unfold okY at ho;omega) (by unfold okY at ho;omega) (by unfold okY at ho;omega);have hv:=tK y (l.getD i zYl).1 (l.getD i zYl).2.1 (l.getD i zYl).2.2.1 (by unfold okY at ho;omega) (by unfold okY at ho;omega);have hmk:=vK1 y (l.getD i zYl).1 (dN y (l.getD i zYl).1 (l.getD i zYl).2.1 (l.getD i zYl).2.2.1);rw[if_pos (vB.2 ⟨hy.1,hy.2,hv.1,hv.2⟩)]at hmk;have f1:=uP y (by omega) (by omega);have f2:=oJ y (l.getD i zYl).1;have f3:=wH y (l.getD i zYl).1;have hw:w6 ((fst_ y+dN y (l.getD i zYl).1 (l.getD i zYl).2.1 (l.getD i zYl).2.2.1-1+cum y (l.getD i zYl).1)*86400+(l.getD i zYl).2.2.2.1)=yAt (l.getD i zYl) y:=by unfold yAt;unfold okY at ho;exact wr (by omega) (by omega)
  rw[qB.l2_eq];simp(disch:=omega)only[ss,hn,hmk,hw,hY1,hlim];refine(ih (i+1) (acc++[(yAt (l.getD i zYl) y,(l.getD i zYl).2.2.2.2.1,())]) (by omega) (by omega) (by simp;omega)).trans ?_;rw[tX1];rfl
theorem zI (z:Zn) (hz:pG z) (y:Int):qB.f z y=some (yrL z y,()):=by
 obtain⟨base,sh,ys,tE,⟨⟩⟩:=z;obtain⟨h1,h2,h3⟩:=hz;dsimp only at h1 h2 h3;have l1t:qB.l1 y true (base,sh,ys,tE,())=some ([],()):=by rw[qB.l1_eq,cond_true]
 unfold yrL;rw[qB.f_eq];dsimp only;by_cases c0:(ys.length:Int)=0
 ·have e:ys=[]:=lX1 (by omega);rw[dp c0,cond_true,l1t,if_pos (.inl e)]
 ·rw[dn c0,cond_false];have hne:ys≠[]:=fun e=>c0 (by rw[e];rfl)
  by_cases c1:y<tE
  ·rw[dp c1,cond_true,l1t,if_pos (.inr (.inl c1))]
  ·rw[dn c1,cond_false];by_cases c2:y>9999
   ·rw[dp c2,l1t,if_pos (.inr (.inr c2))]
   ·rw[dn c2,qB.l1_eq,cond_false,if_neg (by rintro(q | q | q);exact hne q;exact c1 q;exact c2 q)];rcases h3 with⟨q,_⟩ | ⟨q1,q2,q3,q4,_⟩
    ·exact absurd q hne
    ·have:=dK1 y (by omega) ys (by omega) q2.1 _ 0 [] rfl (eX1 _) (iX1 _);rw[cY1,bY1,sX1]at this;exact this
def nrL (z:Zn) (Y:Int):List Sp:=z.2.1++(if Y<z.2.2.2.1 then yrL z z.2.2.2.1 else yrL z (Y-1)++(yrL z Y++yrL z (Y+1)))
theorem bK (z:Zn) (hz:pG z) (y:Int):(yrL z y).length≤2:=by
 unfold yrL;split
 ·simp
 ·rw[pY1];rcases hz.2.2 with⟨q,_⟩ | ⟨q,_⟩
  ·rw[q];simp
  ·omega
theorem wN1 (l:List Sp) (h:l.length≤1000000):uB.f l=some (l,()):=by rw[uB.f_sem];show(bif decide (List.length l≤pC)then some (l,())else none)=_;rw[dp (by simp only[pC];omega),cond_true]
theorem sG1 (z:Zn) (hz:pG z) (u:Int) (hu:inT u):∃Y m d,tF (u/86400) Y m d∧tD.f z u=some (nrL z Y,()):=by
 have hlim:pC=17179869184:=rfl;have hd:=rJ hu;obtain⟨Y,m,d,h1,h2,_⟩:=tI (u/86400) hd.1 hd.2;obtain⟨v1,v2,v3,v4⟩:=vB.1 h1.1;refine⟨Y,m,d,h1,?_⟩;have hD:=(wF u (by omega) (by omega)).1;have hl:=hz.2.1.2;rw[tD.f_eq,hD];simp only[wW1];rw[h2];simp only[wW1];rw[wN1 _ (by omega)];simp only[wW1];unfold nrL;have y1:=bK z hz z.2.2.2.1;have y2:=bK z hz (Y-1);have y3:=bK z hz Y;have y4:=bK z hz (Y+1);by_cases c:Y<z.2.2.2.1
 ·rw[dp c,if_pos c,cond_true,zI z hz];simp(disch:=omega)only[ss,hlim]
 ·rw[dn c,if_neg c,cond_false,wr (by omega) (by omega),tD.l1_eq,zI z hz];simp(disch:=omega)only[ss,hlim,show Y-1+1=Y by omega];rw[tD.l1_eq,zI z hz];simp(disch:=omega)only[ss,hlim,zW1];rw[tD.l1_eq,zI z hz];simp(disch:=omega)only[ss,hlim,zW1];rw[tD.l1_eq];simp(disch:=omega)only[ss,tX1]
theorem nI1 (z:Zn) (hz:pG z) (Y:Int):∀s∈nrL z Y,offP s.2.1:=by
 have hy:∀y,∀s∈yrL z y,offP s.2.1:=by
  intro y s hs;unfold yrL at hs;split at hs
  ·cases hs
  ·obtain⟨x,hx,rfl⟩:=pX1.1 hs;rcases hz.2.2 with⟨q,_⟩ | ⟨_,q,_⟩
   ·rw[q]at hx;cases hx
   ·obtain⟨j,hj,rfl⟩:=sZ1 hx;have:=(q.1 j hj).2.2.2.2.2.2.2.2;rwa[aX1,dX1 hj]at this
 intro s hs;unfold nrL at hs;rcases kX1.1 hs with hs | hs
 ·obtain⟨j,hj,rfl⟩:=sZ1 hs;have:=(hz.2.1.1 j hj).2.1;rwa[aX1,dX1 hj]at this
 ·split at hs
  ·exact hy _ s hs
  ·rcases kX1.1 hs with hs | hs
   ·exact hy _ s hs
   ·rcases kX1.1 hs with hs | hs
    ·exact hy _ s hs
    ·exact hy _ s hs
theorem lQ1 (z:Zn) (hz:pG z) (Y:Int):(nrL z Y).length≤100:=by
 have y1:=bK z hz z.2.2.2.1;have y2:=bK z hz (Y-1);have y3:=bK z hz Y;have y4:=bK z hz (Y+1);have hl:=hz.2.1.2;unfold nrL;split
 ·rw[zW1];omega
 ·rw[zW1,zW1,zW1];omega
def befL (u:Int) (p:Bool×Sp) (s:Sp):Bool×Sp:=if s.1≤u then(true,s)else p
theorem zK1 (u:Int) (l:List Sp) (hl:l.length≤1000000) (y0:Sp):∀(k i:Nat) (b:Bool) (y:Sp),l.length-i=k→i≤l.length →
  aD.l1 u b l (l.length:Int) (i:Int) y0 y=some (((l.drop i).foldl (befL u) (b,y)).2,((l.drop i).foldl (befL u) (b,y)).1,()):=by
 intro k
 induction k with
 | zero=>
  intro i b y hk hi;have e:i=l.length:=by omega
  subst e;rw[aD.l1_eq,jY1];simp(disch:=omega)only[ss,List.foldl_nil]
 | succ k ih=>
  intro i b y hk hi;have hlt:i<l.length:=by omega
  rw[aD.l1_eq,pB zSh hlt,List.foldl_cons];by_cases c:(l.getD i zSh).1≤u
  ·have e:befL u (b,y) (l.getD i zSh)=(true,l.getD i zSh):=by unfold befL;rw[if_pos c]
   rw[e];simp(disch:=omega)only[ss];exact ih (i+1) true _ (by omega) (by omega)
  ·have e:befL u (b,y) (l.getD i zSh)=(b,y):=by unfold befL;rw[if_neg c]
   rw[e];simp(disch:=omega)only[ss];exact ih (i+1) b y (by omega) (by omega)
theorem tN1 (u:Int) (l:List Sp) (hl:l.length≤1000000) (y0:Sp):∀(k i:Nat),l.length-i=k→i≤l.length →
  dD.l1 u l (l.length:Int) (i:Int) y0=some (match(l.drop i).find? (fun s=>decide (s.1>u))with | some s=>(s,true,()) | none=>(zSh,false,())):=by
 intro k
 induction k with
 | zero=>
  intro i hk hi;have e:i=l.length:=by omega
  subst e;rw[dD.l1_eq,jY1];simp(disch:=omega)only[ss,List.find?_nil]
 | succ k ih=>
  intro i hk hi;have hlt:i<l.length:=by omega
  rw[dD.l1_eq,pB zSh hlt,List.find?_cons];by_cases c:(l.getD i zSh).1>u
  ·rw[dp c];simp(disch:=omega)only[ss]
  ·rw[dn c];simp(disch:=omega)only[ss];exact ih (i+1) (by omega) (by omega)
def offV (z:Zn) (Y u:Int):Int:=if((nrL z Y).foldl (befL u) (false,zSh)).1=true then((nrL z Y).foldl (befL u) (false,zSh)).2.2.1 else z.1
def aftV (z:Zn) (Y u:Int):Option Sp:=(nrL z Y).find? (fun s=>decide (s.1>u))
theorem qV (z:Zn) (hM:xB.f z=some (true,())) (u:Int) (hu:inT u):oH.f z u=some (true,()):=by have hm:=(cU u).1;rw[oH.f_eq,hm,dp hu];simp only[wW1,cond_true];rw[hM];rfl
section
variable (z : Zn) (hz : pG z) (hM : xB.f z = some (true, ()))
include hz hM
theorem vS (u:Int) (hu:inT u):∃Y m d,tF (u/86400) Y m d∧dH.f z u=some (offV z Y u,())∧dD.f z u=some (match aftV z Y u with | some s=>(s,true,()) | none=>(zSh,false,())):=by
 obtain⟨Y,m,d,h1,h2⟩:=sG1 z hz u hu;have hl:=lQ1 z hz Y;refine⟨Y,m,d,h1,?_,?_⟩
 ·have hb:=zK1 u (nrL z Y) (by omega) zSh _ 0 false zSh rfl (eX1 _);rw[cY1,sX1]at hb;rw[dH.f_eq,qV z hM u hu];simp only[wW1,gX1,cond_false];rw[aD.f_eq,qV z hM u hu];simp only[wW1,gX1,cond_false];rw[h2];simp only[wW1];rw[hb];simp only[wW1];unfold offV
  cases((nrL z Y).foldl (befL u) (false,zSh)).1 with
  | true=>rw[if_pos rfl];rfl
  | false=>rw[if_neg (by simp)];rfl
 ·have ha:=tN1 u (nrL z Y) (by omega) zSh _ 0 rfl (eX1 _);rw[cY1,sX1]at ha;rw[dD.f_eq,qV z hM u hu];simp only[wW1,gX1,cond_false];rw[h2];simp only[wW1];exact ha
end
theorem jA1 (u:Int):∀(l:List Sp) (b:Bool) (y:Sp),(∀s∈l,offP s.2.1)→(b=true→offP y.2.1)→(l.foldl (befL u) (b,y)).1=true→offP (l.foldl (befL u) (b,y)).2.2.1
 | [],b,y,_,h,q=>h q
 | s::l,b,y,h1,h2,q=>by
  rw[List.foldl_cons]at q ⊢;have hs:=h1 s (by simp);by_cases c:s.1≤u
  ·rw[show befL u (b,y) s=(true,s)from if_pos c]at q ⊢;exact jA1 u l true s (fun x hx=>h1 x (yW1 _ hx)) (fun _=>hs) q
  ·rw[show befL u (b,y) s=(b,y)from if_neg c]at q ⊢;exact jA1 u l b y (fun x hx=>h1 x (yW1 _ hx)) h2 q
theorem aC1 (z:Zn) (hz:pG z) (Y u:Int):offP (offV z Y u):=by
 unfold offV;split
 ·rename_i h;exact jA1 u _ false zSh (nI1 z hz Y) (fun q=>by cases q) h
 ·exact hz.1
def utcV (o:Int) (a:Option Sp) (t:Int):Int:=match a with
 | none=>t-o
 | some s=>if t-o<s.1 then t-o else if t-s.2.1≥s.1 then t-s.2.1 else t-o
theorem rB1 (z:Zn) (hz:pG z) (hM:xB.f z=some (true,())) (t:Int) (ht: -62104060800≤t∧t<253370764800):
  ∃Y m d,tF ((t-64800)/86400) Y m d∧oC.f z t=some (utcV (offV z Y (t-64800)) (aftV z Y (t-64800)) t,())∧t-64800≤utcV (offV z Y (t-64800)) (aftV z Y (t-64800)) t∧utcV (offV z Y (t-64800)) (aftV z Y (t-64800)) t≤t+64800:=by
 obtain⟨Y,m,d,h1,h2,h3⟩:=vS z hz hM (t-64800) ⟨by omega,by omega⟩;have hb:=aC1 z hz Y (t-64800);have hw:iH.f t=some (true,()):=by rw[iH.f_eq,xV,xV,if_pos (by omega),if_pos (by omega)];simp only[wW1];rw[show fst_ 2*86400 = -62104060800 by decide,show fst_ 9999*86400=253370764800 by decide];simp(disch:=omega)only[ss,ge_iff_le]
 refine⟨Y,m,d,h1,?_⟩;have hx:w6 (t-64800)=t-64800:=wr (by omega) (by omega);rw[oC.f_eq,hw];simp only[wW1,gX1,cond_false];rw[hM];simp only[wW1,gX1];rw[oC.l1_eq,cond_false,hx,h2];simp only[wW1];rw[h3];generalize offV z Y (t-64800)=o at hb;have hao:∀s,aftV z Y (t-64800)=some s→offP s.2.1:=fun s hs=>nI1 z hz Y s (List.mem_of_find?_eq_some hs)
 generalize aftV z Y (t-64800)=a at hao;unfold offP at hb
 cases a with
 | none=>
  simp only[wW1,dY1,cond_true];rw[oC.l2_eq,cond_true,wr (by omega) (by omega)];unfold utcV;dsimp only;exact⟨rfl,by omega,by omega⟩
 | some s=>
  have hs:=hao s rfl;unfold offP at hs;simp only[wW1,gX1,cond_false];rw[oC.l2_eq,wr (x:=t-o) (by omega) (by omega),wr (x:=t-s.2.1) (by omega) (by omega)];unfold utcV;dsimp only;by_cases c1:t-o<s.1
  ·rw[dp c1,cond_true,if_pos c1];exact⟨rfl,by omega,by omega⟩
  ·rw[dn c1,cond_false,if_neg c1];by_cases c2:t-s.2.1≥s.1
   ·rw[dp c2,cond_true,if_pos c2];exact⟨rfl,by omega,by omega⟩
   ·rw[dn c2,cond_false,if_neg c2];exact⟨rfl,by omega,by omega⟩
set_option maxRecDepth 1000000
abbrev r0 :Int×Int×Int×Int×Int×Bool×List Int×List Int×List Int×List Int×List (Int×Int×Unit)×List Int×List Int×List Int×List Int×Unit:=(3,1,2,0,0,false,[],[],[],[],[],[],[],[],[],())
theorem mW1 :cG.f ⟨#[50,48,50,54,48,51,48,49,84,48,48,48,48,48,48]⟩=some (1772323200,0,()):=rB (E:=E) (f:=62) rfl (D:=c62) (c:=b62) (by kernel_rfl) (by kernel_rfl) _ 100 (by kernel_rfl)
theorem ex_a :cG.f ⟨#[50,48,50,54,48,49,48,53,84,48,56,48,48,48,48]⟩=some (1767600000,0,()):=rB (E:=E) (f:=62) rfl (D:=c62) (c:=b62) (by kernel_rfl) (by kernel_rfl) _ 100 (by kernel_rfl)
theorem ex_b :cG.f ⟨#[50,48,50,54,48,49,49,50,84,48,56,48,48,48,48]⟩=some (1768204800,0,()):=rB (E:=E) (f:=62) rfl (D:=c62) (c:=b62) (by kernel_rfl) (by kernel_rfl) _ 100 (by kernel_rfl)
theorem uU1 :oC.f (3600,[],[],0,()) 1767603600=some (1767600000,()):=rB (E:=E) (f:=39) rfl (D:=c39) (c:=b39) (by kernel_rfl) (by kernel_rfl) _ 100 (by kernel_rfl)
theorem hW1 :oC.f (3600,[],[],0,()) 1768208400=some (1768204800,()):=rB (E:=E) (f:=39) rfl (D:=c39) (c:=b39) (by kernel_rfl) (by kernel_rfl) _ 100 (by kernel_rfl)
theorem ex_z :xB.f (3600,[],[],0,())=some (true,()):=rB (E:=E) (f:=83) rfl (D:=c83) (c:=b83) (by kernel_rfl) (by kernel_rfl) _ 100 (by kernel_rfl)
theorem ex_m :sC.f (0,1767603600,3600,true,r0,[],[],())=some (true,()):=rB (E:=E) (f:=36) rfl (D:=c36) (c:=b36) (by kernel_rfl) (by kernel_rfl) _ 100 (by kernel_rfl)
theorem szS (l:List UInt8):(mkS l).size=l.length:=by rw[dP1,B_mk]
def F0 :List UInt8:=[68,84,83,84,65,82,84,59,84,90,73,68,61]
def F1 :List UInt8:=[68,85,82,65,84,73,79,78,58]
def F2 :List UInt8:=[82,82,85,76,69,58]
def F3 :List UInt8:=[82,68,65,84,69,58]
def F4 :List UInt8:=[69,88,68,65,84,69,58]
theorem fr0 :eC.f 0=some (mkS F0,()):=by rw[eC.f_eq];rfl
theorem fr1 :eC.f 1=some (mkS F1,()):=by rw[eC.f_eq];rfl
theorem fr2 :eC.f 2=some (mkS F2,()):=by rw[eC.f_eq];rfl
theorem fr3 :eC.f 3=some (mkS F3,()):=by rw[eC.f_eq];rfl
theorem fr4 :eC.f 4=some (mkS F4,()):=by rw[eC.f_eq];rfl
def Fr :Nat→List UInt8
 | 0=>F0
 | 1=>F1
 | 2=>F2
 | 3=>F3
 | _=>F4
theorem fr_k (k:Nat) (hk:k<5):eC.f (k:Int)=some (mkS (Fr k),()):=by
 have:k=0∨k=1∨k=2∨k=3∨k=4:=by omega
 rcases this with rfl | rfl | rfl | rfl | rfl
 ·exact fr0
 ·exact fr1
 ·exact fr2
 ·exact fr3
 ·exact fr4
def pf (F s:List UInt8):Bool:=decide (s.take F.length=F)
theorem fR (s F:List UInt8):qC.f (mkS s) (mkS F)=some (pf F s,()):=by
 unfold pf;rw[qC.f_eq,wD.f_eq,szS,szS];by_cases c:(s.length:Int)≥(F.length:Int)
 ·have e:(mkS s).extract 0 F.length=mkS (s.take F.length):=dO1 (by rw[rT1,B_mk,B_mk]);have hd:(mkS (s.take F.length)=mkS F)↔s.take F.length=F:=⟨fun h=>congrArg B h,fun h=>by rw[h]⟩
  simp(disch:=omega)only[ss,tV1,e];rw[decide_eq_decide.2 hd]
 ·rw[dn c,cond_false,dn (fun h=>c (by have:=congrArg List.length h;rw[mX1]at this;omega))];rfl
theorem xB1 (k:Nat) (v:List UInt8):pf (Fr k) (Fr k++v)=true:=by unfold pf;rw[lZ1];exact dp rfl
abbrev zM :Mt:=(0,0,0,false,zR,[],[],())
abbrev Rs :Type:=Option (Mt×Int×Int×Unit)
def bad9 (i:Int):Rs:=some (zM,i,4,())
noncomputable def QA (X:List ByteArray) (nx i:Int) (y:Mt):Rs:=gA.l1a X nx X (X.length:Int) i 0 0 0 false 0 0 0 0 0 false y
noncomputable def QB (X:List ByteArray) (s:ByteArray) (nx i:Int) (y:Mt):Rs:=gA.l2a X i s nx X (X.length:Int) i 0 0 0 false 0 0 0 0 0 false y
noncomputable def QC (X:List ByteArray) (nx i:Int) (b:Bool) (y:Mt):Rs:=bif b then bad9 i else QA X (nx+1) (i+1) y
theorem jT1 (X:List ByteArray) (nx i:Nat) (b:Bool) (y:Mt) (h:nx<10) (h2:i<1000000):gA.l5a X (i:Int) (nx:Int) X (X.length:Int) (i:Int) b 0 0 0 false 0 0 0 0 0 false y=QC X nx i b y:=by
 rw[gA.l5a_eq];unfold QC QA bad9
 cases b with
 | true=>rfl
 | false=>simp(disch:=omega)only[ss]
theorem jP1 (X:List ByteArray) (s:List UInt8) (k i:Nat) (y:Mt) (hk:k<5) (hi:i<1000000) (hp:pf (Fr k) s=true):
  QB X (mkS s) k i y=(sE.f y (k:Int) (mkS (s.drop (Fr k).length))).bind fun t=>QC X k i (!t.1) t.2.1:=by
 have hl:(Fr k).length≤s.length:=by unfold pf at hp;have:=congrArg List.length (of_decide_eq_true hp);rw[mX1]at this;omega
 have hx:(mkS s).extract (Fr k).length s.length=mkS (s.drop (Fr k).length):=dO1 (by rw[←szS s,gP1,B_mk,B_mk]);unfold QB;rw[gA.l2a_eq];simp(disch:=omega)only[ss,fr_k k hk,fR,hp,gA.l3a_eq];rw[gA.l4a_eq];simp(disch:=omega)only[ss,fr_k k hk,fR,hp,szS,hx]
 congr 1
 funext t
 exact jT1 X k i _ _ (by omega) hi
theorem iT1 (X:List ByteArray) (s:List UInt8) (nx i:Nat) (y:Mt) (hi:i<X.length) (hX:X.getD i ByteArray.empty=mkS s):QA X nx i y=QB X (mkS s) nx i y:=by unfold QA QB;rw[gA.l1a_eq];simp(disch:=omega)only[ss,hX]
theorem sU1 (X:List ByteArray) (nx:Nat) (y:Mt):QA X nx X.length y=if nx≤1 then some (zM,(X.length:Int),2,())else(sC.f y).bind fun t=>bif !t.1 then some (zM,0,1,())else some (y,0,0,()):=by
 unfold QA;rw[gA.l1a_eq];by_cases c:nx≤1
 ·rw[if_pos c];simp(disch:=omega)only[ss];rfl
 ·rw[if_neg c];simp(disch:=omega)only[ss];rfl
theorem aR1 (X:List ByteArray) (s:List UInt8) (hi:0<X.length) (hX:X.getD 0 ByteArray.empty=mkS s):
  gA.l1 X 0 X (X.length:Int) 0 0 0 0 false 0 0 0 0 0 false 0 0 0 false 0 0 0 0 0 false=bif pf F0 s then(sE.f zM 0 (mkS (s.drop F0.length))).bind fun t=>QC X ((0:Nat):Int) ((0:Nat):Int) (!t.1) t.2.1 else bad9 0:=by
 have t0:(0:Int).toNat=0:=rfl;rw[gA.l1_eq];simp(disch:=omega)only[ss,t0,hX];rw[gA.l2_eq];simp(disch:=omega)only[ss,fr0,fR]
 cases hp:pf F0 s with
 | false=>
  simp(disch:=omega)only[ss,gA.l3_eq];rw[gA.l4_eq];simp(disch:=omega)only[ss,fr0,fR,hp,gA.l5_eq];rfl
 | true=>
  have hl:F0.length≤s.length:=by unfold pf at hp;have:=congrArg List.length (of_decide_eq_true hp);rw[mX1]at this;omega
  have hx:(mkS s).extract F0.length s.length=mkS (s.drop F0.length):=dO1 (by rw[←szS s,gP1,B_mk,B_mk]);simp(disch:=omega)only[ss,gA.l3_eq];rw[gA.l4_eq];simp(disch:=omega)only[ss,fr0,fR,hp,szS,hx]
  congr 1
  funext t
  exact jT1 X 0 0 _ _ (by omega) (by omega)
set_option maxRecDepth 1000000
abbrev exA :List UInt8:=[48,58,50,48,50,54,48,49,48,53,84,48,57,48,48,48,48]
abbrev exB :List UInt8:=[80,84,49,72]
abbrev exR :List UInt8:=[70,82,69,81,61,87,69,69,75,76,89,59,67,79,85,78,84,61,50]
theorem tL1 :xH.f ⟨#[48,58,50,48,50,54,48,49,48,53,84,48,57,48,48,48,48]⟩=some (0,1767603600,true,()):=rB (E:=E) (f:=169) rfl (D:=c169) (c:=b169) (by kernel_rfl) (by kernel_rfl) _ 100 (by kernel_rfl)
theorem mU1 :bI.f ⟨#[80,84,49,72]⟩=some (3600,0,()):=rB (E:=E) (f:=170) rfl (D:=c170) (c:=b170) (by kernel_rfl) (by kernel_rfl) _ 100 (by kernel_rfl)
theorem uP1 :kN.f ⟨#[70,82,69,81,61,87,69,69,75,76,89,59,67,79,85,78,84,61,50]⟩=some (r0,0,0,()):=rB (E:=E) (f:=49) rfl (D:=c49) (c:=b49) (by kernel_rfl) (by kernel_rfl) _ 100 (by kernel_rfl)
theorem oT1 :tM.f [68,84,83,84,65,82,84,59,84,90,73,68,61,48,58,50,48,50,54,48,49,48,53,84,48,57,48,48,48,48,13,10,68,85,82,65,84,73,79,78,58,80,84,49,72,13,10,82,82,85,76,69,58,70,82,69,81,61,87,69,69,75,76,89,59,67,79,85,78,84,61,50,13,10]=some ([⟨#[68,84,83,84,65,82,84,59,84,90,73,68,61,48,58,50,48,50,54,48,49,48,53,84,48,57,48,48,48,48]⟩,⟨#[68,85,82,65,84,73,79,78,58,80,84,49,72]⟩,⟨#[82,82,85,76,69,58,70,82,69,81,61,87,69,69,75,76,89,59,67,79,85,78,84,61,50]⟩],0,0,()):=rB (E:=E) (f:=108) rfl (D:=c108) (c:=b108) (by kernel_rfl) (by kernel_rfl) _ 300 (by kernel_rfl)
theorem ex_p :gA.f [68,84,83,84,65,82,84,59,84,90,73,68,61,48,58,50,48,50,54,48,49,48,53,84,48,57,48,48,48,48,13,10,68,85,82,65,84,73,79,78,58,80,84,49,72,13,10,82,82,85,76,69,58,70,82,69,81,61,87,69,69,75,76,89,59,67,79,85,78,84,61,50,13,10]=some ((0,1767603600,3600,true,r0,[],[],()),0,0,()):=by
 have hs:tM.f [68,84,83,84,65,82,84,59,84,90,73,68,61,48,58,50,48,50,54,48,49,48,53,84,48,57,48,48,48,48,13,10,68,85,82,65,84,73,79,78,58,80,84,49,72,13,10,82,82,85,76,69,58,70,82,69,81,61,87,69,69,75,76,89,59,67,79,85,78,84,61,50,13,10]=some ([F0++exA,F1++exB,F2++exR].map mkS,0,0,()):=oT1;obtain⟨X,hX⟩:∃X,X=[F0++exA,F1++exB,F2++exR].map mkS:=⟨_,rfl⟩
 have hl:X.length=3:=by rw[hX];rfl
 have g0:X.getD 0 ByteArray.empty=mkS (Fr 0++exA):=by rw[hX];rfl
 have g1:X.getD 1 ByteArray.empty=mkS (Fr 1++exB):=by rw[hX];rfl
 have g2:X.getD 2 ByteArray.empty=mkS (Fr 2++exR):=by rw[hX];rfl
 have r1:sE.f zM 0 (mkS exA)=some (true,(0,1767603600,0,false,zR,[],[],()),()):=by rw[sE.f_eq];simp(disch:=omega)only[ss,show xH.f (mkS exA)=_ from tL1]
 have r2:sE.f (0,1767603600,0,false,zR,[],[],()) ((1:Nat):Int) (mkS exB)=some (true,(0,1767603600,3600,false,zR,[],[],()),()):=by rw[sE.f_eq];simp(disch:=omega)only[ss,show bI.f (mkS exB)=_ from mU1]
 have r3:sE.f (0,1767603600,3600,false,zR,[],[],()) ((2:Nat):Int) (mkS exR)=some (true,(0,1767603600,3600,true,r0,[],[],()),()):=by rw[sE.f_eq];simp(disch:=omega)only[ss,show kN.f (mkS exR)=_ from uP1]
 have hm:sC.f (0,1767603600,3600,true,r0,[],[],())=some (true,()):=ex_m;rw[gA.f_eq,hs,←hX];simp only[wW1,decide_true,gX1,cond_false];rw[aR1 X _ (by omega) g0,show pf F0 (Fr 0++exA)=true from xB1 0 exA,cond_true,show(Fr 0++exA).drop F0.length=exA from dZ1 (l₁:=F0),r1];simp only[wW1];show QA X ((1:Nat):Int) ((1:Nat):Int) _=_;rw[iT1 X _ 1 1 _ (by omega) g1,jP1 X _ 1 1 _ (by omega) (by omega) (xB1 1 exB),dZ1,r2];simp only[wW1];show QA X ((2:Nat):Int) ((2:Nat):Int) _=_;rw[iT1 X _ 2 2 _ (by omega) g2,jP1 X _ 2 2 _ (by omega) (by omega) (xB1 2 exR),dZ1,r3];simp only[wW1];show QA X ((3:Nat):Int) ((3:Nat):Int) _=_;have:=sU1 X 3 (0,1767603600,3600,true,r0,[],[],());rw[hl,if_neg (by omega),hm]at this;exact this
set_option maxRecDepth 1000000
abbrev exD :Int×Int×Int×Int×Int×Unit:=(20458,2026,1,5,0,())
abbrev exP :(Int×Int×Int×Int×Int×Bool×List Int×List Int×List Int×List Int×List (Int×Int×Unit)×List Int×List Int×List Int×List Int×Unit)×((Int×Int×Int×Int×Int×Bool×List Int×List Int×List Int×List Int×List (Int×Int×Unit)×List Int×List Int×List Int×List Int×Unit)×Int×(Int×Int×Int×Int×Int×Unit)×Int×Unit)×Int×List Int×List Int×List Int×Unit:=(r0,(r0,1767603600,exD,32400,()),1767603600,[9],[0],[0],())
theorem wP1 :tB.f r0 1767603600 1772496000=some (exP,true,()):=rB (E:=E) (f:=65) rfl (D:=c65) (c:=b65) (by kernel_rfl) (by kernel_rfl) _ 120 (by kernel_rfl)
theorem aV1 :lC.f (r0,1767603600,exD,32400,()) 1767603600=some (20458,20464,()):=rB (E:=E) (f:=205) rfl (D:=c205) (c:=b205) (by kernel_rfl) (by kernel_rfl) _ 60 (by kernel_rfl)
theorem eV1 :lC.f (r0,1767603600,exD,32400,()) 1768176000=some (20465,20471,()):=rB (E:=E) (f:=205) rfl (D:=c205) (c:=b205) (by kernel_rfl) (by kernel_rfl) _ 60 (by kernel_rfl)
theorem iV1 :tC.f exP 1767603600=some (true,()):=rB (E:=E) (f:=206) rfl (D:=c206) (c:=b206) (by kernel_rfl) (by kernel_rfl) _ 60 (by kernel_rfl)
theorem pW1 :tC.f exP 1768176000=some (true,()):=rB (E:=E) (f:=206) rfl (D:=c206) (c:=b206) (by kernel_rfl) (by kernel_rfl) _ 60 (by kernel_rfl)
theorem aW1 :iB.f exP 20458=some (true,()):=rB (E:=E) (f:=208) rfl (D:=c208) (c:=b208) (by kernel_rfl) (by kernel_rfl) _ 60 (by kernel_rfl)
theorem oW1 :iB.f exP 20459=some (false,()):=rB (E:=E) (f:=208) rfl (D:=c208) (c:=b208) (by kernel_rfl) (by kernel_rfl) _ 60 (by kernel_rfl)
theorem vW1 :iB.f exP 20460=some (false,()):=rB (E:=E) (f:=208) rfl (D:=c208) (c:=b208) (by kernel_rfl) (by kernel_rfl) _ 60 (by kernel_rfl)
theorem rW1 :iB.f exP 20461=some (false,()):=rB (E:=E) (f:=208) rfl (D:=c208) (c:=b208) (by kernel_rfl) (by kernel_rfl) _ 60 (by kernel_rfl)
theorem xV1 :iB.f exP 20462=some (false,()):=rB (E:=E) (f:=208) rfl (D:=c208) (c:=b208) (by kernel_rfl) (by kernel_rfl) _ 60 (by kernel_rfl)
theorem iW1 :iB.f exP 20463=some (false,()):=rB (E:=E) (f:=208) rfl (D:=c208) (c:=b208) (by kernel_rfl) (by kernel_rfl) _ 60 (by kernel_rfl)
theorem sV1 :iB.f exP 20464=some (false,()):=rB (E:=E) (f:=208) rfl (D:=c208) (c:=b208) (by kernel_rfl) (by kernel_rfl) _ 60 (by kernel_rfl)
theorem bW1 :iB.f exP 20465=some (true,()):=rB (E:=E) (f:=208) rfl (D:=c208) (c:=b208) (by kernel_rfl) (by kernel_rfl) _ 60 (by kernel_rfl)
theorem kW1 :bA.f exP 20458 0 86400 100000 ()=some ([1767603600],(),()):=rB (E:=E) (f:=100001) rfl (D:=wW) (c:=dL1) (by kernel_rfl) (by kernel_rfl) _ 60 (by kernel_rfl)
theorem zV1 :bA.f exP 20465 0 86400 100000 ()=some ([1768208400],(),()):=rB (E:=E) (f:=100001) rfl (D:=wW) (c:=dL1) (by kernel_rfl) (by kernel_rfl) _ 60 (by kernel_rfl)
abbrev exC (l:List Int):(Int×Unit)×(Int×Unit)×((((List Int)×Unit)×(Int×Unit)×Unit)×Unit)×Unit:=((1767603600,()),(1772496000,()),(((l,()),(2,()),()),()),())
theorem eW1 :lA.f [1767603600] (1767603600,()) (1772496000,()) ((([],()),(2,()),()),())=some (true,(1767603600,()),(1772496000,()),((([1767603600],()),(2,()),()),()),()):=rB (E:=E) (f:=100005) rfl (D:=tU) (c:=fJ1) (by kernel_rfl) (by kernel_rfl) _ 60 (by kernel_rfl)
theorem fW1 :lA.f [1768208400] (1767603600,()) (1772496000,()) ((([1767603600],()),(2,()),()),())=some (false,(1767603600,()),(1772496000,()),((([1767603600,1768208400],()),(2,()),()),()),()):=rB (E:=E) (f:=100005) rfl (D:=tU) (c:=fJ1) (by kernel_rfl) (by kernel_rfl) _ 60 (by kernel_rfl)
theorem tT1 :qD.f 1767603600=some (20458,32400,()):=rB (E:=E) (f:=122) rfl (D:=c122) (c:=b122) (by kernel_rfl) (by kernel_rfl) _ 60 (by kernel_rfl)
theorem dT1 :qD.f 1772496000=some (20515,0,()):=rB (E:=E) (f:=122) rfl (D:=c122) (c:=b122) (by kernel_rfl) (by kernel_rfl) _ 60 (by kernel_rfl)
theorem wF1 (d:Int) (h0:20458≤d) (hd:d≤20464) (hf:iB.f exP d=some (false,())):dA.l1 20464 20515 d 1767603600 1772496000 2 [1767603600] exP=dA.l1 20464 20515 (d+1) 1767603600 1772496000 2 [1767603600] exP:=by
 have hm:mm false 20464 20515=20464:=rfl
 conv=>lhs;rw[dA.l1_eq]
 simp(disch:=omega)only[ss,hm,hf,dA.l2_eq]
theorem zU1 :dA.f exP 1767603600 20458 20464 1767603600 1772496000 (exC [])=some (true,exC [1767603600],()):=by
 have hm:mm false 20464 20515=20464:=rfl;have h0:dA.f exP 1767603600 20458 20464 1767603600 1772496000 (exC [])=dA.l1 20464 20515 20458 1767603600 1772496000 2 [] exP:=by rw[dA.f_eq,tT1,dT1];rfl
 rw[h0,dA.l1_eq,hm,dp (by omega),cond_true,aW1];simp only[wW1,cond_true];rw[kW1];simp only[wW1];rw[eW1];simp only[wW1,gX1];rw[dA.l2_eq,cond_false,wr (by omega) (by omega)]
 rw[show(20458+1:Int)=20459 from rfl,wF1 20459 (by omega) (by omega) oW1,show(20459+1:Int)=20460 from rfl,wF1 20460 (by omega) (by omega) vW1,show(20460+1:Int)=20461 from rfl,wF1 20461 (by omega) (by omega) rW1,
  show(20461+1:Int)=20462 from rfl,wF1 20462 (by omega) (by omega) xV1,show(20462+1:Int)=20463 from rfl,wF1 20463 (by omega) (by omega) iW1,show(20463+1:Int)=20464 from rfl,wF1 20464 (by omega) (by omega) sV1,show(20464+1:Int)=20465 from rfl]
 rw[dA.l1_eq,hm,dn (by omega),cond_false]
theorem vU1 :dA.f exP 1768176000 20465 20471 1767603600 1772496000 (exC [1767603600])=some (false,exC [1767603600,1768208400],()):=by
 have hm:mm false 20471 20515=20471:=rfl;have h0:dA.f exP 1768176000 20465 20471 1767603600 1772496000 (exC [1767603600])=dA.l1 20471 20515 20465 1767603600 1772496000 2 [1767603600] exP:=by rw[dA.f_eq,tT1,dT1];rfl
 rw[h0,dA.l1_eq,hm,dp (by omega),cond_true,bW1];simp only[wW1,cond_true];rw[zV1];simp only[wW1];rw[fW1];simp only[wW1,dY1];rw[dA.l2_eq,cond_true]
theorem xQ1 :jA.f exP 1767603600 1772496000 (exC [])=some (exC [1767603600,1768208400],()):=by rw[jA.f_eq,jA.l1_eq,dp (by omega),cond_true];rw[show lC.f exP.2.1 1767603600=_ from aV1];simp only[wW1];rw[iV1];simp only[wW1,cond_true];rw[zU1];simp only[wW1,gX1];rw[jA.l2_eq,cond_false,wr (x:=20464+1) (by omega) (by omega),wr (by omega) (by omega),show((20464+1)*86400:Int)=1768176000 from rfl,jA.l1_eq,dp (by omega),cond_true];rw[show lC.f exP.2.1 1768176000=_ from eV1];simp only[wW1];rw[pW1];simp only[wW1,cond_true];rw[vU1];simp only[wW1,dY1];rw[jA.l2_eq,cond_true]
theorem ex_l :aE.f r0 1767603600 1772496000 4096=some ([1767603600,1768208400],0,()):=by
 have hw:lB.f exP 1767603600 1772496000 (([],()),(2,()),())=some ((([1767603600,1768208400],()),(2,()),()),()):=by rw[lB.f_eq];dsimp only;rw[cond_false,show mm true 1767603600 1767603600=1767603600 from rfl,lB.l1_eq];dsimp only;rw[dp (by omega),cond_true,xQ1];rfl
 have hf:dC.f exP r0 1767603600 1772496000 4097=some ([1767603600,1768208400],()):=by rw[dC.f_eq];dsimp only;rw[dp (by omega),cond_true,show mm false 4097 2=2 from rfl,dC.l1_eq,hw];rfl
 rw[aE.f_eq,wP1];simp only[wW1,gX1,cond_false];rw[dn (by omega),cond_false,dn (by omega),cond_false,wr (by omega) (by omega),show(4096+1:Int)=4097 from rfl,hf];simp(disch:=omega)only[ss,uX1,gZ1]
abbrev cW1 (l:List Int):Prop:=l.Pairwise (· < ·)
def dd :Int→List Int→List Int
 | _,[]=>[]
 | p,a::l=>if a=p then dd a l else a::dd a l
theorem lO1 :∀(l:List Int) (p x:Int),x∈dd p l∨x=p↔x∈l∨x=p
 | [],p,x=>by simp[dd]
 | a::l,p,x=>by
  unfold dd;have ih:=lO1 l a x;by_cases h:a=p
  ·subst h;rw[if_pos rfl,ih,cX1];constructor
   ·rintro(h | h)
    ·exact .inl (.inr h)
    ·exact .inr h
   ·rintro((h | h) | h)
    ·exact .inr h
    ·exact .inl h
    ·exact .inr h
  ·rw[if_neg h,cX1,cX1];constructor
   ·rintro((h1 | h1) | h1)
    ·exact .inl (.inl h1)
    ·rcases ih.1 (.inl h1)with h2 | h2
     ·exact .inl (.inr h2)
     ·exact .inl (.inl h2)
    ·exact .inr h1
   ·rintro((h1 | h1) | h1)
    ·exact .inl (.inl h1)
    ·rcases ih.2 (.inl h1)with h2 | h2
     ·exact .inl (.inr h2)
     ·exact .inl (.inl h2)
    ·exact .inr h1
theorem lC1 :∀(l:List Int) (p:Int),(p::l).Pairwise (· ≤ ·)→cW1 (p::dd p l)
 | [],p,_=>List.pairwise_singleton _ _
 | a::l,p,h=>by
  unfold dd;rw[tY1]at h;have ih:=lC1 l a h.2;by_cases he:a=p
  ·subst he;rw[if_pos rfl];exact ih
  ·rw[if_neg he];have hlt:p<a:=by have:=h.1 a bX1;omega
   refine tY1.2 ⟨fun b hb=>?_,ih⟩;rcases cX1.1 hb with rfl | hb
   ·exact hlt
   ·have:=(tY1.1 ih).1 b hb;omega
def dds :List Int→List Int
 | []=>[]
 | a::l=>a::dd a l
theorem kQ1 (N:Nat) (hN:N≤1000000) (b:Nat):∀(k i q:Nat) (y:List Int),y.length=N→N-(b+q)=k→1≤q→i<b+q→b+q≤N →
  cA.l3 i b q y=some (y.take i++dd (y.getD (b+q-1) 0) (y.drop (b+q)),()):=by
 intro k
 induction k with
 | zero=>
  intro i q y hy hk hq hi hb;have e:b+q=y.length:=by omega
  have e2:(y.take i++List.replicate (y.length-i) 0).take i=y.take i:=by rw[yY1 (by rw[mX1];omega),List.take_take,Nat.min_self]
  rw[cA.l3_eq,e,jY1];simp(disch:=omega)only[ss,zW1,mX1,List.length_replicate,e2,cA.l4_eq,dd,rX1]
 | succ k ih=>
  intro i q y hy hk hq hi hb;have hlt:b+q<y.length:=by omega
  have w1:w6 ((q:Int)-1)=((q-1:Nat):Int):=jJ1 (by omega) (by omega);have w2:((b:Int)+((q-1:Nat):Int)).toNat=b+q-1:=by omega
  have e1:((q:Int)<((y.length-b:Nat):Int)):=by omega
  rw[cA.l3_eq,pB 0 hlt];simp(disch:=omega)only[ss,w1,w2,e1,rY1,dd];by_cases hc:y.getD (b+q) 0=y.getD (b+q-1) 0
  ·simp(disch:=omega)only[ss,if_pos hc];have:=ih i (q+1) y hy (by omega) (by omega) (by omega) (by omega);rw[show b+(q+1)-1=b+q by omega,show b+(q+1)=b+q+1 by omega]at this;exact this
  ·simp(disch:=omega)only[ss,if_neg hc];have:=ih (i+1) (q+1) (y.set i (y.getD (b+q) 0)) (by simp[hy]) (by omega) (by omega) (by omega) (by omega);refine this.trans ?_;have g1:(y.set i (y.getD (b+q) 0)).getD (b+(q+1)-1) 0=y.getD (b+q) 0:=by
    rw[show b+(q+1)-1=b+q by omega,aX1,aX1,List.getElem?_set];by_cases h:i=b+q
    ·omega
    ·rw[if_neg h]
   have g2:(y.set i (y.getD (b+q) 0)).getD i 0=y.getD (b+q) 0:=by rw[fN 0 (show i<(y.set i (y.getD (b+q) 0)).length by simp;omega)];simp
   rw[g1,wG 0 (show i<(y.set i (y.getD (b+q) 0)).length by simp;omega),List.drop_set_of_lt (by omega),List.take_set_of_le (iX1 i),g2,show b+(q+1)=b+q+1 by omega];simp
theorem iQ1 (y:List Int) (hN:y.length≤1000000):∀(k q:Nat),y.length-q=k→1≤q→q≤y.length →
  cA.l2 q y=some (y.take q++dd (y.getD (q-1) 0) (y.drop q),()):=by
 intro k
 induction k with
 | zero=>
  intro q hk hq hq2;have e:q=y.length:=by omega
  subst e;rw[cA.l2_eq];simp(disch:=omega)only[ss,cA.l5_eq,jY1,List.take_length,dd,rX1]
 | succ k ih=>
  intro q hk hq hq2;have hlt:q<y.length:=by omega
  have w1:w6 ((q:Int)-1)=((q-1:Nat):Int):=jJ1 (by omega) (by omega);rw[cA.l2_eq,pB 0 hlt];simp(disch:=omega)only[ss,w1,dd];by_cases hc:y.getD q 0=y.getD (q-1) 0
  ·simp(disch:=omega)only[ss,if_pos hc];have:=kQ1 y.length hN q _ q 1 y rfl rfl (iX1 _) (by omega) (by omega);rw[show q+1-1=q by omega]at this;exact this
  ·simp(disch:=omega)only[ss,if_neg hc];have:=ih (q+1) (by omega) (by omega) (by omega);rw[show q+1-1=q by omega,wG 0 hlt]at this;refine Eq.trans this ?_;simp
theorem aZ (y:List Int) (hN:y.length≤1000000):cA.f y=some (dds y,()):=by
 rw[cA.f_eq]
 cases y with
 | nil=>simp(disch:=omega)only[ss,gZ1,sX1,cA.l1_eq];rfl
 | cons a l=>
  by_cases h:l=[]
  ·subst h;simp(disch:=omega)only[ss,uX1,gZ1,cA.l1_eq];rfl
  ·have h1:0<l.length:=hA2.2 h;have:=iQ1 (a::l) hN _ 1 rfl (iX1 _) (by simp);simp(disch:=omega)only[ss,uX1];refine Eq.trans this ?_;rfl
def gL (ex:List Int) (e t:Int):Bool:= !(decide (t∈ex)||decide (t≥e))
theorem eG1 {p:Int→Bool} {x:Int} (h:p x=false):List.filter p [x]=[]:=by rw[List.filter_cons,h];rfl
theorem xM1 {p:Int→Bool} {x:Int} (h:p x=true):List.filter p [x]=[x]:=by rw[List.filter_cons,h];rfl
section
variable (z st du : Int) (rc : Bool) (f iv ct un wk : Int) (en : Bool) (mo we yd md : List Int) (dy : List (Int × Int × Unit)) (ho mi se po da ex : List Int) (e : Int)
theorem nT1 (hx:Rise ex) (hl:ex.length≤1000000) (t:Int):pF.f t (z,st,du,rc,f,iv,ct,un,wk,en,mo,we,yd,md,dy,ho,mi,se,po,da,ex,()) (e,())=some (!gL ex e t,(z,st,du,rc,f,iv,ct,un,wk,en,mo,we,yd,md,dy,ho,mi,se,po,da,ex,()),(e,()),()):=by
 obtain⟨i,h1,h2,h3⟩:=eP1 hl hx t;have hd:decide (i<ex.length∧ex.getD i 0=t)=decide (t∈ex):=decide_eq_decide.2 ⟨fun h=>by rw[←h.2];exact aH h.1,h3⟩;rw[hd]at h1;rw[pF.f_eq];dsimp only;rw[h1];simp only[wW1];unfold gL;by_cases c:t∈ex
 ·rw[dp c,cond_true,Bool.true_or];rfl
 ·rw[dn c,cond_false,Bool.false_or,Bool.not_not]
theorem oU1 (hx:Rise ex) (hl:ex.length≤1000000) (l:List Int) (hn:l.length≤1000000):∀(k i:Nat),l.length-i=k→i≤l.length →
  (∃j,i≤j∧j<l.length∧gL ex e (l.getD j 0)=false∧(∀q,i≤q→q<j→gL ex e (l.getD q 0)=true)∧vA.l1 (l.length:Int) (i:Int) l (z,st,du,rc,(f,iv,ct,un,wk,en,mo,we,yd,md,dy,ho,mi,se,po,()),da,ex,()) e=some ((j:Int),l,((z,st,du,rc,f,iv,ct,un,wk,en,mo,we,yd,md,dy,ho,mi,se,po,da,ex,()),(e,()),()),())) ∨
  ((∀q,i≤q→q<l.length→gL ex e (l.getD q 0)=true)∧vA.l1 (l.length:Int) (i:Int) l (z,st,du,rc,(f,iv,ct,un,wk,en,mo,we,yd,md,dy,ho,mi,se,po,()),da,ex,()) e=some (-1,l,((z,st,du,rc,f,iv,ct,un,wk,en,mo,we,yd,md,dy,ho,mi,se,po,da,ex,()),(e,()),()),())):=by
 intro k
 induction k with
 | zero=>
  intro i hk hi;refine .inr ⟨fun q h1 h2=>by omega,?_⟩;rw[vA.l1_eq];simp(disch:=omega)only[ss]
 | succ k ih=>
  intro i hk hi;have hlt:i<l.length:=by omega
  rw[vA.l1_eq];dsimp only;have h1:=nT1 z st du rc f iv ct un wk en mo we yd md dy ho mi se po da ex e hx hl (l.getD i 0);simp(disch:=omega)only[ss,h1];cases hkp:gL ex e (l.getD i 0)with
  | false=>
   refine .inl ⟨i,iX1 _,hlt,hkp,fun q h1 h2=>by omega,?_⟩;rfl
  | true=>
   simp only[gX1,cond_false];rcases ih (i+1) (by omega) (by omega)with⟨j,a1,a2,a3,a4,a5⟩ | ⟨a1,a2⟩
   ·refine .inl ⟨j,by omega,a2,a3,fun q q1 q2=>?_,a5⟩;by_cases c:q=i
    ·rw[c];exact hkp
    ·exact a4 q (by omega) q2
   ·refine .inr ⟨fun q q1 q2=>?_,a2⟩;by_cases c:q=i
    ·rw[c];exact hkp
    ·exact a1 q (by omega) q2
theorem sS1 (hx:Rise ex) (hl:ex.length≤1000000) (l:List Int) (hn:l.length≤1000000):∀(k i p:Nat) (y:List Int),l.length-i=k→i≤l.length→p≤i→y.length=l.length→y.take p=(l.take i).filter (gL ex e)→y.drop i=l.drop i →
  eA.l2 (p:Int) (i:Int) y (z,st,du,rc,(f,iv,ct,un,wk,en,mo,we,yd,md,dy,ho,mi,se,po,()),da,ex,()) e=some (l.filter (gL ex e),((z,st,du,rc,f,iv,ct,un,wk,en,mo,we,yd,md,dy,ho,mi,se,po,da,ex,()),(e,()),()),()):=by
 intro k
 induction k with
 | zero=>
  intro i p y hk hi hp hy ht hd;have e1:i=l.length:=by omega
  subst e1;rw[List.take_length]at ht;have hlen:(y.take p++List.replicate (y.length-p) 0).length=y.length:=by simp;omega
  have htk:(y.take p++List.replicate (y.length-p) 0).take p=l.filter (gL ex e):=by rw[yY1 (by rw[mX1];omega),List.take_take,Nat.min_self,ht]
  rw[eA.l2_eq];simp(disch:=omega)only[ss,hlen,htk,eA.l3_eq]
 | succ k ih=>
  intro i p y hk hi hp hy ht hd;have hlt:i<l.length:=by omega
  have hg:y.getD i 0=l.getD i 0:=by have h1:=pB 0 (show i<y.length by omega);have h2:=pB 0 hlt;rw[hd,h2]at h1;injection h1 with h1 _;exact h1.symm
  have hd':y.drop (i+1)=l.drop (i+1):=by have h1:=congrArg (List.drop 1) hd;rwa[List.drop_drop,List.drop_drop]at h1
  have h1:=nT1 z st du rc f iv ct un wk en mo we yd md dy ho mi se po da ex e hx hl (l.getD i 0);rw[eA.l2_eq];dsimp only;simp(disch:=omega)only[ss,hg,h1];cases hkp:gL ex e (l.getD i 0)with
  | false=>
   simp only[dY1,cond_true,gX1,cond_false];exact ih (i+1) p y (by omega) (by omega) (by omega) hy (by rw[wG 0 hlt,List.filter_append,ht,eG1 hkp,rX1]) hd'
  | true=>
   simp only[dY1,cond_true,gX1,cond_false];refine ih (i+1) (p+1) (y.set p (l.getD i 0)) (by omega) (by omega) (by omega) (by rw[bA2];exact hy) ?_ ?_
   ·rw[wG 0 hlt,List.filter_append,←ht];rw[wG 0 (show p<(y.set p (l.getD i 0)).length by rw[bA2];omega),List.take_set_of_le (iX1 _)]
    congr 1
    rw[aX1,List.getElem?_set_self (by omega),jZ1,xM1 hkp]
   ·rw[List.drop_set_of_lt (by omega)];exact hd'
theorem iL1 (hx:Rise ex) (hl:ex.length≤1000000) (l:List Int) (hn:l.length≤1000000):eA.f l ((z,st,du,rc,f,iv,ct,un,wk,en,mo,we,yd,md,dy,ho,mi,se,po,da,ex,()),(e,()),())=some (l.filter (gL ex e),((z,st,du,rc,f,iv,ct,un,wk,en,mo,we,yd,md,dy,ho,mi,se,po,da,ex,()),(e,()),()),()):=by
 have hI:∀v,vA.l1 (l.length:Int) ((0:Nat):Int) l (z,st,du,rc,(f,iv,ct,un,wk,en,mo,we,yd,md,dy,ho,mi,se,po,()),da,ex,()) e=v→vA.f l ((z,st,du,rc,f,iv,ct,un,wk,en,mo,we,yd,md,dy,ho,mi,se,po,da,ex,()),(e,()),())=v:=fun v h=>by rw[vA.f_eq];exact h
 rw[eA.f_eq];dsimp only;rcases oU1 z st du rc f iv ct un wk en mo we yd md dy ho mi se po da ex e hx hl l hn _ 0 rfl (eX1 _)with⟨j,a1,a2,a3,a4,a5⟩ | ⟨a1,a2⟩
 ·rw[hI _ a5];simp(disch:=omega)only[ss];refine sS1 z st du rc f iv ct un wk en mo we yd md dy ho mi se po da ex e hx hl l hn _ (j+1) j l rfl (by omega) (by omega) rfl ?_ rfl;rw[wG 0 a2,List.filter_append]
  have:(l.take j).filter (gL ex e)=l.take j:=List.filter_eq_self.2 fun x hx=>by obtain⟨q,h1,h2⟩:=rW hx;rw[mX1]at h1;rw[←h2,aX1,List.getElem?_take_of_lt (by omega),←aX1];exact a4 q (by omega) (by omega)
  rw[this,eG1 a3,rX1]
 ·rw[hI _ a2];simp(disch:=omega)only[ss,eA.l1_eq]
  have:l.filter (gL ex e)=l:=List.filter_eq_self.2 fun x hx=>by obtain⟨q,h1,h2⟩:=rW hx;rw[←h2];exact a1 q (by omega) h1
  rw[this]
theorem bZ (y:List Int) (hy:y.length≤1000000):bD.f y=some (y.mergeSort fun x y=>decide (x≤y),()):=by rw[bD.f_sem];show(bif decide (List.length y≤pC)then some (y.mergeSort fun x y=>decide (x≤y),())else none)=_;rw[dp (by simp only[pC];omega),cond_true]
theorem mW (y:List Int) (hy:y.length≤1000000):yB.f y=some (y,()):=by rw[yB.f_sem];show(bif decide (List.length y≤pC)then some (y,())else none)=_;rw[dp (by simp only[pC];omega),cond_true]
theorem dA1 (y:List Int) (x:Int):x∈dds y↔x∈y:=by
 cases y with
 | nil=>exact Iff.rfl
 | cons a r=>
  show x∈a::dd a r↔_;rw[cX1,cX1];have:=lO1 r a x;exact⟨fun h=>(this.1 h.symm).symm,fun h=>(this.2 h.symm).symm⟩
theorem uZ (y:List Int) (h:y.Pairwise (· ≤ ·)):Rise (dds y):=by
 cases y with
 | nil=>exact List.Pairwise.nil
 | cons a r=>exact lC1 r a h
theorem iZ (y:List Int):(y.mergeSort fun x y=>decide (x≤y)).Pairwise (· ≤ ·):=
 (List.pairwise_mergeSort (le:=fun x y:Int=>decide (x≤y)) (fun a b c h1 h2=>by simp at *;omega) (fun a b=>by simp;omega) y).imp fun h=>of_decide_eq_true h
theorem pT :∀(l:List Int) (p:Int),(dd p l).length≤l.length
 | [],_=>iX1 _
 | a::l,p=>by unfold dd;have:=pT l a;split <;> simp <;> omega
theorem tA1 (y:List Int):(dds y).length≤y.length:=by
 cases y with
 | nil=>exact iX1 _
 | cons a r=>exact Nat.succ_le_succ (pT r a)
noncomputable def locL (l da ex:List Int) (e:Int):List Int:=(dds ((l++da).mergeSort fun x y=>decide (x≤y))).filter (gL ex e)
theorem wD1 {l da ex:List Int} {e x:Int}:x∈locL l da ex e↔(x∈l∨x∈da)∧x∉ex∧x<e:=by unfold locL gL;rw[nZ1,dA1,List.mem_mergeSort,kX1];simp
theorem yX (l da ex:List Int) (e:Int):Rise (locL l da ex e):=List.Pairwise.filter _ (uZ _ (iZ _))
noncomputable def locE (l da ex:List Int) (e:Int):Option (List Int×Int×Unit):=if((locL l da ex e).length:Int)>4096 then some ([],10,())else some (locL l da ex e,0,())
theorem bA1 (hx:Rise ex) (hl:ex.length≤1000000) (l:List Int) (h1:l.length≤400000) (h2:da.length≤400000):
  bC.l1 l (z,st,du,rc,(f,iv,ct,un,wk,en,mo,we,yd,md,dy,ho,mi,se,po,()),da,ex,()) e=locE l da ex e∧bC.l1a (z,st,du,rc,(f,iv,ct,un,wk,en,mo,we,yd,md,dy,ho,mi,se,po,()),da,ex,()) e l=locE l da ex e:=by
 have hlim:pC=17179869184:=rfl;have hs:=bZ (l++da) (by rw[zW1];omega);have hc:=aZ ((l++da).mergeSort fun x y=>decide (x≤y)) (by rw[List.length_mergeSort,zW1];omega);have hdl:=tA1 ((l++da).mergeSort fun x y=>decide (x≤y));rw[List.length_mergeSort,zW1]at hdl;have hd:=iL1 z st du rc f iv ct un wk en mo we yd md dy ho mi se po da ex e hx hl (dds ((l++da).mergeSort fun x y=>decide (x≤y))) (by omega);have hk:=mW l (by omega)
 have fin:(bif decide (((locL l da ex e).length:Int)>4096)then(some (([]:List Int),(10:Int),()))else(some (locL l da ex e,0,())))=locE l da ex e:=by
  unfold locE;by_cases c:((locL l da ex e).length:Int)>4096
  ·rw[dp c,if_pos c];rfl
  ·rw[dn c,if_neg c];rfl
 rw[bC.l1_eq,bC.l1a_eq,hk];dsimp only;simp only[wW1];rw[dp (by omega),cond_true,hs];simp only[wW1];rw[hc];simp only[wW1];rw[hd];exact⟨fin,fin⟩
end
theorem gU1 :bC.f (0,1767603600,3600,true,r0,[],[],()) 1772496000=some ([1767603600,1768208400],0,()):=by
 rw[bC.f_eq,ex_m];dsimp only;simp only[wW1,gX1,cond_false,cond_true];rw[ex_l];simp only[wW1];have h:=(bA1 0 1767603600 3600 true 3 1 2 0 0 false [] [] [] [] [] [] [] [] [] [] [] 1772496000 List.Pairwise.nil (by simp) [1767603600,1768208400] (by simp) (by simp)).1;have hL:locL [1767603600,1768208400] [] [] 1772496000=[1767603600,1768208400]:=by
  refine gJ (yX _ _ _ _) (by unfold Rise;simp) fun x=>?_
  rw[wD1];simp;omega
 unfold locE at h;rw[hL,if_neg (by simp)]at h;exact h
theorem vN1 :fB.f (0,1767603600,3600,true,r0,[],[],()) [(3600,[],[],0,())] 1772323200=some ([(1767600000,1767603600,()),(1768204800,1768208400,())],0,()):=by
 let U:Int→Int:=fun t=>t-3600
 have hU:okU (([(3600,[],[],0,())]:List Zn).getD (0:Int).toNat zZ) U [1767603600,1768208400]:=by
  intro t ht;simp only[cX1,List.not_mem_nil,or_false]at ht;rcases ht with rfl | rfl
  ·exact⟨uU1,by decide,by decide⟩
  ·exact⟨hW1,by decide,by decide⟩
 obtain⟨r,h1,h2,h3⟩:=kZ [(3600,[],[],0,())] 1772323200 [1767603600,1768208400] U (0,1767603600,3600,true,r0,[],[],()) (by simp) (by simp) (by simp) hU;have hs:spF U 3600 1772323200 [1767603600,1768208400]=[(1767600000,1767603600,()),(1768204800,1768208400,())]:=by decide
 have h1:r.Perm [(1767600000,1767603600,()),(1768204800,1768208400,())]:=by rw[←hs];exact h1
 have hr:r=[(1767600000,1767603600,()),(1768204800,1768208400,())]:=by
  have hl:=h1.length_eq
  match r,hl with
  | [a,b],_=>
   have ha:=h1.mem_iff.1 (show a∈[a,b] by simp);have hb:=h1.mem_iff.1 (show b∈[a,b] by simp);have hab:=(tY1.1 h2).1 b (by simp);have q1:=h1.mem_iff.2 (show((1767600000,1767603600,()):Sp)∈_ by simp);have q2:=h1.mem_iff.2 (show((1768204800,1768208400,()):Sp)∈_ by simp);simp only[cX1,List.not_mem_nil,or_false]at ha hb q1 q2;rcases ha with rfl | rfl <;> rcases hb with rfl | rfl
   ·simp at q2
   ·rfl
   ·simp at hab
   ·simp at q1
 subst hr;rw[fB.f_eq,ex_m];dsimp only;simp only[wW1,gX1,cond_false];rw[show xB.f (([(3600,[],[],0,())]:List Zn).getD (0:Int).toNat (0,[],[],0,()))=some (true,())from ex_z,eU1,bU1];simp(disch:=omega)only[ss,fB.l1_eq,uX1,gZ1];rw[show(1772323200+172800:Int)=1772496000 from rfl,gU1];simp(disch:=omega)only[ss];rw[show(([1767603600,1768208400]:List Int).length:Int)=((([1767603600,1768208400]:List Int).length:Nat):Int)from rfl];refine Eq.trans h3 ?_;decide
theorem uI :iD.f=some (true,()):=by rw[iD.f_eq,ex_p,mW1];simp only[wW1,uX1,gZ1];rw[vN1,ex_a,ex_b];simp only[wW1];rw[show w6 (1767600000+3600)=1767603600 by rw[wr (by omega) (by omega)];rfl,show w6 (1768204800+3600)=1768208400 by rw[wr (by omega) (by omega)];rfl,zU _ _ (by simp)];simp(disch:=omega)only[ss]
theorem jF1 {l:List Int} (h:lQ l):Rise l:=iB1 fun j h0 hj=>(jP h).2.1 j hj h0
noncomputable def zX (m:Mt) (e:Int):List Int:=if m.2.2.2.1=true then LS m.2.2.2.2.1 m.2.1 e else [m.2.1]
noncomputable def allL (m:Mt) (e:Int):List Int:=locL (zX m e) m.2.2.2.2.2.1 m.2.2.2.2.2.2.1 e
theorem nC1 {m:Mt} {e x:Int}:x∈allL m e↔(x∈zX m e∨x∈m.2.2.2.2.2.1)∧x∉m.2.2.2.2.2.2.1∧x<e:=wD1
theorem gG1 (m:Mt) (e:Int):Rise (allL m e):=yX _ _ _ _
theorem zI1 (m:Mt) (hs:mG1 m) (e:Int):∃L cd,bC.f m e=some (L,cd,())∧(¬cd=0→L=[]) ∧
  (cd=0→mayM m∧L=allL m e∧L.length≤4096∧(m.2.2.2.1=true→okE m.2.1 e))∧(¬mayM m→cd=1):=by
 obtain⟨b,hb,hb2⟩:=uT1 m hs;by_cases hM:mayM m
 ·have hb1:b=true:=hb2.2 hM;subst hb1;obtain⟨z,st,du,rc,⟨f,iv,ct,un,wk,en,mo,we,yd,md,dy,ho,mi,se,po,⟨⟩⟩,da,ex,⟨⟩⟩:=m;have hM0:=hM;obtain⟨m1,m2,m3,m4,m5,m6,m7,m8,m9⟩:=hM;obtain⟨s1,s2,s3⟩:=hs;dsimp only at s1 s2 s3 m1 m2 m3 m4 m5 m6 m7 m8 m9;have hda:=(jP m6).1;have hex:=(jP m7).1;have hrx:=jF1 m7;rw[bC.f_eq,hb];dsimp only;simp only[wW1,gX1,cond_false];have fin:∀l:List Int,l.length≤4096→l=zX (z,st,du,rc,(f,iv,ct,un,wk,en,mo,we,yd,md,dy,ho,mi,se,po,()),da,ex,()) e→(rc=true→okE st e) → ∃L cd,locE l da ex e=some (L,cd,())∧(¬cd=0→L=[]) ∧
    (cd=0→mayM (z,st,du,rc,(f,iv,ct,un,wk,en,mo,we,yd,md,dy,ho,mi,se,po,()),da,ex,())∧L=allL (z,st,du,rc,(f,iv,ct,un,wk,en,mo,we,yd,md,dy,ho,mi,se,po,()),da,ex,()) e∧L.length≤4096∧(rc=true→okE st e))∧(¬mayM (z,st,du,rc,(f,iv,ct,un,wk,en,mo,we,yd,md,dy,ho,mi,se,po,()),da,ex,())→cd=1):=by
   intro l hl hlb hok;unfold locE;by_cases c:((locL l da ex e).length:Int)>4096
   ·rw[if_pos c];exact⟨_,_,rfl,fun _=>rfl,fun q=>by omega,fun q=>absurd hM0 q⟩
   ·rw[if_neg c];exact⟨_,_,rfl,fun q=>absurd rfl q,fun _=>⟨hM0,by unfold allL;rw[←hlb],by omega,hok⟩,fun q=>absurd hM0 q⟩
  cases rc with
  | false=>
   rw[cond_false,(bA1 z st du false f iv ct un wk en mo we yd md dy ho mi se po da ex e hrx (by omega) [st] (by simp) (by omega)).2];exact fin [st] (by simp) (by unfold zX;rw[if_neg (by simp)]) fun q=>by cases q
  | true=>
   obtain⟨L,cd,h1,h2,h3,_⟩:=lN1 (f,iv,ct,un,wk,en,mo,we,yd,md,dy,ho,mi,se,po,()) s1 st e 4096 (by omega) (by omega);rw[cond_true,h1];simp only[wW1];by_cases c:cd=0
   ·obtain⟨_,g2,g3,g4⟩:=h3 c;rw[dp c,gX1,cond_false,(bA1 z st du true f iv ct un wk en mo we yd md dy ho mi se po da ex e hrx (by omega) L (by omega) (by omega)).1];obtain⟨L',cd',q1,q2,q3,q4⟩:=fin L (by omega) (by unfold zX;rw[if_pos rfl];exact g3) fun _=>g2
    exact⟨L',cd',q1,q2,fun q=>⟨(q3 q).1,(q3 q).2.1,(q3 q).2.2.1,fun _=>(q3 q).2.2.2 rfl⟩,q4⟩
   ·rw[dn c,dY1,cond_true];exact⟨_,_,rfl,fun _=>rfl,fun q=>absurd q c,fun q=>absurd hM0 q⟩
 ·have hb1:b=false:=by
   cases b with
   | true=>exact absurd (hb2.1 rfl) hM
   | false=>rfl
  rw[bC.f_eq,hb,hb1];exact⟨[],1,rfl,fun _=>rfl,fun q=>by omega,fun _=>rfl⟩
theorem pR1 {m:Mt} (hM:mayM m) {e x:Int} (h:x∈zX m e∨x∈m.2.2.2.2.2.1): -62104060800≤x∧(x<253370764800∨x<e):=by
 obtain⟨m1,m2,m3,m4,m5,m6,m7,m8,m9⟩:=hM;unfold innP at m3;rcases h with h | h
 ·unfold zX at h;split at h
  ·have:=bT1 h;omega
  ·rw[fY1]at h;omega
 ·have:=(jP m6).2.2 x h;unfold innP at this;omega
noncomputable def utcF (Z:Zn) (t:Int):Int:=((oC.f Z t).getD (0,())).1
theorem iW (Z:Zn) (hz:pG Z) (hM:xB.f Z=some (true,())) (t:Int) (ht: -62104060800≤t∧t<253370764800):oC.f Z t=some (utcF Z t,())∧t-64800≤utcF Z t∧utcF Z t≤t+64800:=by obtain⟨Y,m,d,_,h1,h2,h3⟩:=rB1 Z hz hM t ht;unfold utcF;rw[h1];exact⟨rfl,h2,h3⟩
def SpOK (m:Mt) (zs:List Zn) (hi:Int) (S:List Sp):Prop:=mayM m∧0≤m.1∧m.1<(zs.length:Int)∧pG (zs.getD m.1.toNat zZ)∧xB.f (zs.getD m.1.toNat zZ)=some (true,()) ∧ -62072524800≤hi∧hi<253339228800 ∧
   bC.f m (hi+172800)=some (allL m (hi+172800),0,())∧(allL m (hi+172800)).length≤4096∧okU (zs.getD m.1.toNat zZ) (utcF (zs.getD m.1.toNat zZ)) (allL m (hi+172800)) ∧
   ∃r:List Sp,r.Perm (spF (utcF (zs.getD m.1.toNat zZ)) m.2.2.1 hi (allL m (hi+172800)))∧r.Pairwise (fun x y=>x.1≤y.1)∧S=r.foldl push []
theorem kJ1 (m:Mt) (hs:mG1 m) (zs:List Zn) (hzs:∀z∈zs,z.2.1.length≤400) (hi:Int):∃S cd,fB.f m zs hi=some (S,cd,())∧(¬cd=0→S=[]) ∧
  (cd=0→SpOK m zs hi S):=by
 have stop:∃S cd,fB.l1 zs hi true m=some (S,cd,())∧(¬cd=0→S=[])∧cd=1:=⟨[],1,by rw[fB.l1_eq,cond_true],fun _=>rfl,rfl⟩
 have bad:∀{P:List Sp→Prop},∃S cd,fB.l1 zs hi true m=some (S,cd,())∧(¬cd=0→S=[])∧(cd=0→P S):=fun {P}=>by obtain⟨S,cd,h1,h2,h3⟩:=stop;exact⟨S,cd,h1,h2,fun q=>by omega⟩
 obtain⟨b,hb,hb2⟩:=uT1 m hs;rw[fB.f_eq,hb];simp only[wW1]
 cases b with
 | false=>rw[dY1,cond_true];exact bad
 | true=>
 have hM:=hb2.1 rfl;have hM0:=hM;obtain⟨m1,m2,m3,m4,m5,m6,m7,m8,m9⟩:=hM;rw[gX1,cond_false];by_cases c1:m.1≥(zs.length:Int)
 ·rw[dp c1,cond_true];exact bad
 rw[dn c1,cond_false,dp m1,cond_true,dp (by omega),cond_true];have hzin:zs.getD m.1.toNat zZ∈zs:=wY zZ (by omega);obtain⟨d,hd,hd2⟩:=cG1 (zs.getD m.1.toNat zZ) (by have:=hzs _ hzin;omega);have hd':xB.f (zs.getD m.1.toNat (0,[],[],0,()))=some (d,()):=hd;rw[hd'];simp only[wW1]
 cases d with
 | false=>rw[dY1,cond_true];exact bad
 | true=>
 have hz:=hd2.1 rfl;rw[gX1,cond_false,eU1];simp only[wW1];by_cases c2:hi < -62072524800
 ·rw[dp c2,cond_true];exact bad
 rw[dn c2,cond_false,bU1];simp only[wW1];by_cases c3:hi≥253339228800
 ·rw[dp c3];exact bad
 rw[dn c3,fB.l1_eq,cond_false,wr (by omega) (by omega)];obtain⟨L,cd,h1,h2,h3,_⟩:=zI1 m hs (hi+172800);rw[h1];simp only[wW1];by_cases c:cd=0
 ·obtain⟨_,g2,g3,_⟩:=h3 c;subst c;rw[dp rfl,gX1,cond_false];subst g2
  have hU:okU (zs.getD m.1.toNat zZ) (utcF (zs.getD m.1.toNat zZ)) (allL m (hi+172800)):=fun t ht=>by have hm:=nC1.1 ht;have hb:=pR1 hM0 hm.1;have hu:=iW _ hz hd t ⟨hb.1,by omega⟩;exact⟨hu.1,by omega,by omega⟩
  obtain⟨r,r1,r2,r3⟩:=kZ zs hi (allL m (hi+172800)) (utcF (zs.getD m.1.toNat zZ)) m ⟨m1,by omega⟩ (by omega) ⟨by omega,m5⟩ hU;exact⟨_,_,r3,fun q=>absurd rfl q,fun _=>⟨hM0,m1,by omega,hz,hd,by omega,by omega,h1,g3,hU,r,r1,r2,rfl⟩⟩
 ·rw[dn c,dY1,cond_true];exact⟨_,_,rfl,fun _=>rfl,fun q=>absurd q c⟩
theorem vR1 (zs:List Zn) (hl:zs.length≤9223372036854775807):∀(k i:Nat),30-i=k→i≤30→i≤zs.length → ∃b,sA.l1 zs (i:Int)=some (b,())∧(b=true→zs.length≤30 ∧ ∀j,i≤j→j<zs.length→(zs.getD j zZ).2.1.length≤400):=by
 have fin:∀i:Nat,(zs.length≤i∨i=30) → ∃b,sA.l2 zs (i:Int) false=some (b,())∧(b=true→zs.length≤30 ∧ ∀j,i≤j→j<zs.length→(zs.getD j zZ).2.1.length≤400):=fun i h=>by rw[sA.l2_eq,cond_false,sA.l3_eq];refine⟨_,rfl,fun q=>?_⟩;rw[decide_eq_true_eq]at q;exact⟨by omega,fun j h1 h2=>by omega⟩
 intro k
 induction k with
 | zero=>
  intro i hk hi hiz;have e:i=30:=by omega
  rw[sA.l1_eq];by_cases c:(i:Int)<(zs.length:Int)
  ·rw[dp c,cond_true,dn (by omega)];exact fin i (.inr e)
  ·rw[dn c,cond_false];exact fin i (.inl (by omega))
 | succ k ih=>
  intro i hk hi hiz;rw[sA.l1_eq];by_cases c:(i:Int)<(zs.length:Int)
  ·rw[dp c,cond_true,dp (by omega),sA.l2_eq,cond_true];have hf:gF.f (zs.getD i zZ)=some (decide ((zs.getD i zZ).2.1.length≤400∧(zs.getD i zZ).2.2.1.length≤400),()):=by
    rw[gF.f_eq];by_cases a:((zs.getD i zZ).2.1.length:Int)≤400
    ·rw[dp a,cond_true]
     congr 2
     exact decide_eq_decide.2 (by omega)
    ·rw[dn a,cond_false,dn (by omega)]
   simp(disch:=omega)only[ss,hf];by_cases a:(zs.getD i zZ).2.1.length≤400∧(zs.getD i zZ).2.2.1.length≤400
   ·rw[dp a,gX1,cond_false];obtain⟨b,h1,h2⟩:=ih (i+1) (by omega) (by omega) (by omega);refine⟨b,h1,fun q=>⟨(h2 q).1,fun j h3 h4=>?_⟩⟩;by_cases e:j=i
    ·subst e;exact a.1
    ·exact(h2 q).2 j (by omega) h4
   ·rw[dn a,dY1,cond_true];exact⟨false,rfl,fun q=>by cases q⟩
  ·rw[dn c,cond_false];exact fin i (.inl (by omega))
theorem fewz (zs:List Zn) (hl:zs.length≤9223372036854775807):∃b,sA.f zs=some (b,())∧(b=true→zs.length≤30 ∧ ∀z∈zs,z.2.1.length≤400):=by obtain⟨b,h1,h2⟩:=vR1 zs hl _ 0 rfl (eX1 _) (eX1 _);rw[sA.f_eq];refine⟨b,h1,fun q=>⟨(h2 q).1,fun z hz=>?_⟩⟩;obtain⟨j,hj,rfl⟩:=sZ1 hz;have:=(h2 q).2 j (eX1 _) hj;rwa[aX1,dX1 hj]at this
theorem hP1 (x:Yl) (hx:okY x) (y:Int) (hy:1≤y∧y≤9999):fst_ y*86400≤yAt x y∧yAt x y<fst_ (y+1)*86400:=by unfold okY at hx;have hv:=tK y x.1 x.2.1 x.2.2.1 (by omega) (by omega);have hd:=fE (n:=fst_ y+dN y x.1 x.2.1 x.2.2.1-1+cum y x.1) ⟨vB.2 ⟨hy.1,hy.2,hv.1,hv.2⟩,rfl⟩;unfold yAt;omega
section
variable (a b : Yl) (ha : okY a) (hb : okY b) (h2 : 2 ≤ b.1 - a.1) (h10 : b.1 - a.1 ≤ 10)
include ha hb h2
theorem iP (y:Int) (hy:1≤y∧y≤9999):yAt a y+200000≤yAt b y:=by unfold okY at ha hb;have hva:=tK y a.1 a.2.1 a.2.2.1 (by omega) (by omega);have hvb:=tK y b.1 b.2.1 b.2.2.1 (by omega) (by omega);have c1:=eD y a.1 (by omega) (by omega);have c2:=eD y (a.1+1) (by omega) (by omega);have c3:=tG y (a:=a.1+1+1) (b:=b.1) (by omega) (by omega) (by omega);have l1:=fL1 y (a.1+1) (by omega) (by omega);unfold yAt;omega
include h10
theorem jN1 (y:Int) (hy:1≤y∧y+1≤9999):yAt b y+200000≤yAt a (y+1):=by
 unfold okY at ha hb;have hva:=tK (y+1) a.1 a.2.1 a.2.2.1 (by omega) (by omega);have hvb:=tK y b.1 b.2.1 b.2.2.1 (by omega) (by omega);have c1:=eD y b.1 (by omega) (by omega);have c2:=eD y 12 (by omega) (by omega);have l12:mlen y 12=31:=by unfold mlen;simp
 have f1:=iF y hy.1;have c0:=oJ (y+1) a.1;rw[show(12+1:Int)=13 from rfl]at c2;unfold yAt;by_cases c:b.1≤11
 ·have c3:=tG y (a:=b.1+1) (b:=12) (by omega) (by omega) (by omega);omega
 ·have e:b.1=12:=by omega
  rw[e]at c1 ⊢;have d1:=eD (y+1) 1 (by omega) (by omega);have d2:mlen (y+1) 1=31:=by unfold mlen;simp
  rw[show(1+1:Int)=2 from rfl,vZ]at d1;have d3:=tG (y+1) (a:=2) (b:=a.1) (by omega) (by omega) (by omega);rw[show(12+1:Int)=13 from rfl]at c1;rw[e]at hvb;omega
end
def Sh (z:Zn) (s:Sp):Prop:=s∈z.2.1 ∨ ∃y,z.2.2.2.1≤y∧y≤9999∧s∈yrL z y
theorem uR {z:Zn} (hz:pG z) {y:Int} {s:Sp} (h:s∈yrL z y):∃a b:Yl,okY a∧okY b∧2≤b.1-a.1∧b.1-a.1≤10∧1≤z.2.2.2.1∧z.2.2.2.1≤y∧y≤9999∧z.2.2.1=[a,b]∧(z.2.1=[]∨(z.2.1.getD (z.2.1.length-1) zSh).1+200000≤fst_ z.2.2.2.1*86400):=by
 unfold yrL at h;split at h
 ·cases h
 ·rename_i hn;rcases hz.2.2 with⟨q,_⟩ | ⟨q1,q2,q3,q4,q5⟩
  ·exact absurd (.inl q) hn
  ·have hy1:¬y<z.2.2.2.1:=fun q=>hn (.inr (.inl q))
   have hy2:¬y>9999:=fun q=>hn (.inr (.inr q))
   obtain⟨p1,p2,p3⟩:=q2
   match hl:z.2.2.1,q1 with
   | [a,b],_=>
    rw[hl]at p1 p2 p3;exact⟨a,b,p1 0 (by simp),p1 1 (by simp),p2,p3,q3,by omega,by omega,rfl,q5⟩
theorem nF1 {z:Zn} {a b:Yl} (h:z.2.2.1=[a,b]) {y:Int} (h1:z.2.2.2.1≤y) (h2:y≤9999):yrL z y=[(yAt a y,a.2.2.2.2.1,()),(yAt b y,b.2.2.2.2.1,())]:=by unfold yrL;rw[if_neg (by rintro(q | q | q);(rw[h]at q;cases q);omega;omega),h];rfl
theorem pV {z:Zn} (hz:pG z) {y:Int} {s:Sp} (h:s∈yrL z y):fst_ y*86400≤s.1∧s.1<fst_ (y+1)*86400∧1≤z.2.2.2.1∧z.2.2.2.1≤y∧y≤9999:=by
 obtain⟨a,b,ha,hb,_,_,f1,f2,f3,hl,_⟩:=uR hz h;rw[nF1 hl f2 f3]at h;simp only[cX1,List.not_mem_nil,or_false]at h;rcases h with rfl | rfl
 ·have:=hP1 a ha y ⟨by omega,f3⟩;exact⟨this.1,this.2,f1,f2,f3⟩
 ·have:=hP1 b hb y ⟨by omega,f3⟩;exact⟨this.1,this.2,f1,f2,f3⟩
theorem eR1 {a b:Int} (h0:1≤a) (h:a<b):fst_ a*86400+86400*365≤fst_ b*86400:=by have:=kD1 h0 h;omega
theorem vO1 {z:Zn} (hz:pG z) {s t:Sp} (hs:Sh z s) (ht:Sh z t):s=t∨s.1+200000≤t.1∨t.1+200000≤s.1:=by
 have hsh:=hz.2.1.1;have pw:∀(j i:Nat),i<j→j<z.2.1.length→(z.2.1.getD i zSh).1+200000≤(z.2.1.getD j zSh).1:=by
  intro j
  induction j with
  | zero=>intro i h1;omega
  | succ j ih=>
   intro i h1 h2;have h3:=(hsh (j+1) h2).2.2 (by omega);rw[Nat.add_sub_cancel]at h3;by_cases c:i=j
   ·subst c;exact h3
   ·have:=ih i (by omega) (by omega);omega
 have own:∀s∈z.2.1,∃i,i<z.2.1.length∧s=z.2.1.getD i zSh:=fun s h=>by obtain⟨i,hi,rfl⟩:=sZ1 h;exact⟨i,hi,by rw[aX1,dX1 hi];rfl⟩
 have last:∀s∈z.2.1,s.1≤(z.2.1.getD (z.2.1.length-1) zSh).1:=fun s h=>by
  obtain⟨i,hi,rfl⟩:=own s h;by_cases c:i=z.2.1.length-1
  ·rw[←c];exact aA2 _
  ·have:=pw (z.2.1.length-1) i (by omega) (by omega);omega
 have mix:∀s∈z.2.1,∀y t,t∈yrL z y→s.1+200000≤t.1:=fun s h y t ht=>by
  obtain⟨a,b,ha,hb,g1,g2,f1,f2,f3,hl,q⟩:=uR hz ht;have h1:=pV hz ht;have h2:=last s h;have h3:=cC (a:=z.2.2.2.1) (b:=y) f1 f2;rcases q with q | q
  ·rw[q]at h;cases h
  ·omega
 rcases hs with hs | ⟨y,y1,y2,hs⟩
 ·rcases ht with ht | ⟨w,w1,w2,ht⟩
  ·obtain⟨i,hi,rfl⟩:=own s hs;obtain⟨j,hj,rfl⟩:=own t ht;rcases Nat.lt_trichotomy i j with c | c | c
   ·exact .inr (.inl (pw j i c hj))
   ·rw[c];exact .inl rfl
   ·exact .inr (.inr (pw i j c hi))
  ·exact .inr (.inl (mix s hs w t ht))
 ·rcases ht with ht | ⟨w,w1,w2,ht⟩
  ·exact .inr (.inr (mix t ht y s hs))
  ·have two:∀(y w:Int) (s t:Sp),z.2.2.2.1≤y→y≤9999→z.2.2.2.1≤w→w≤9999→s∈yrL z y→t∈yrL z w→y<w→s.1+200000≤t.1:=by
    intro y w s t y1 y2 w1 w2 hs ht c;obtain⟨a,b,ha,hb,g1,g2,f1,f2,f3,hl,q⟩:=uR hz hs;by_cases e:w=y+1
    ·subst e;rw[nF1 hl y1 y2]at hs;rw[nF1 hl w1 w2]at ht;have n1:=jN1 a b ha hb g1 g2 y ⟨by omega,by omega⟩;have n2:=iP a b ha hb g1 y ⟨by omega,by omega⟩;have n3:=iP a b ha hb g1 (y+1) ⟨by omega,by omega⟩;simp only[cX1,List.not_mem_nil,or_false]at hs ht;rcases hs with rfl | rfl <;> rcases ht with rfl | rfl <;> (dsimp only;omega)
    ·have h1:=pV hz hs;have h2:=pV hz ht;have h3:=eR1 (a:=y+1) (b:=w) (by omega) (by omega);omega
   rcases Int.lt_trichotomy y w with c | c | c
   ·exact .inr (.inl (two y w s t y1 y2 w1 w2 hs ht c))
   ·subst c;obtain⟨a,b,ha,hb,g1,g2,f1,f2,f3,hl,q⟩:=uR hz hs;rw[nF1 hl y1 y2]at hs ht;have n2:=iP a b ha hb g1 y ⟨by omega,by omega⟩;simp only[cX1,List.not_mem_nil,or_false]at hs ht;rcases hs with rfl | rfl <;> rcases ht with rfl | rfl
    ·exact .inl rfl
    ·exact .inr (.inl n2)
    ·exact .inr (.inr n2)
    ·exact .inl rfl
   ·exact .inr (.inr (two w y t s w1 w2 y1 y2 ht hs c))
theorem sR1 {z:Zn} (hz:pG z) {s t:Sp} (hs:Sh z s) (ht:Sh z t) (h:s.1=t.1):s=t:=by
 rcases vO1 hz hs ht with q | q | q
 ·exact q
 ·omega
 ·omega
theorem iU1 {z:Zn} (hz:pG z) {Y:Int} {s:Sp} (h:s∈nrL z Y):Sh z s:=by
 have hy:∀y,s∈yrL z y→Sh z s:=fun y q=>by have:=pV hz q;exact .inr ⟨y,this.2.2.2.1,this.2.2.2.2,q⟩
 unfold nrL at h;rcases kX1.1 h with h | h
 ·exact .inl h
 ·split at h
  ·exact hy _ h
  ·rcases kX1.1 h with h | h
   ·exact hy _ h
   ·rcases kX1.1 h with h | h
    ·exact hy _ h
    ·exact hy _ h
theorem rV {z:Zn} (hz:pG z) {Y u:Int} (hY:1≤Y∧Y≤9999) (hu:fst_ Y*86400≤u∧u<fst_ (Y+1)*86400) {s:Sp} (h:Sh z s):s∈nrL z Y∨(u<s.1 ∧ ∃t∈nrL z Y,u<t.1∧t.1≤s.1)∨(s.1≤u ∧ ∃t∈nrL z Y,t.1≤u∧s.1≤t.1):=by
 rcases h with h | ⟨y,y1,y2,h⟩
 ·exact .inl (jX1 _ h)
 ·obtain⟨a,b,ha,hb,g1,g2,f1,f2,f3,hl,q⟩:=uR hz h;have hi:=pV hz h
  have some_in:∀w,z.2.2.2.1≤w→w≤9999 → ∃t∈yrL z w,fst_ w*86400≤t.1∧t.1<fst_ (w+1)*86400:=fun w w1 w2=>by
   have e:=nF1 hl w1 w2;have hm:((yAt a w,a.2.2.2.2.1,()):Sp)∈yrL z w:=by rw[e];simp
   have:=pV hz hm;exact⟨_,hm,this.1,this.2.1⟩
  by_cases c:Y<z.2.2.2.1
  ·have hn:nrL z Y=z.2.1++yrL z z.2.2.2.1:=by unfold nrL;rw[if_pos c]
   by_cases e:y=z.2.2.2.1
   ·subst e;exact .inl (by rw[hn];exact fX1 _ h)
   ·obtain⟨t,t1,t2,t3⟩:=some_in z.2.2.2.1 (aA2 _) (by omega);have k1:=cC (a:=Y+1) (b:=z.2.2.2.1) (by omega) (by omega);have k2:=cC (a:=z.2.2.2.1+1) (b:=y) (by omega) (by omega);exact .inr (.inl ⟨by omega,t,by rw[hn];exact fX1 _ t1,by omega,by omega⟩)
  ·have hn:nrL z Y=z.2.1++(yrL z (Y-1)++(yrL z Y++yrL z (Y+1))):=by unfold nrL;rw[if_neg c]
   by_cases e0:y=Y-1
   ·subst e0;exact .inl (by rw[hn];exact fX1 _ (jX1 _ h))
   ·by_cases e1:y=Y
    ·subst e1;exact .inl (by rw[hn];exact fX1 _ (fX1 _ (jX1 _ h)))
    ·by_cases e2:y=Y+1
     ·subst e2;exact .inl (by rw[hn];exact fX1 _ (fX1 _ (fX1 _ h)))
     ·by_cases e3:Y+1<y
      ·obtain⟨t,t1,t2,t3⟩:=some_in (Y+1) (by omega) (by omega);have k2:=cC (a:=Y+1+1) (b:=y) (by omega) (by omega);exact .inr (.inl ⟨by omega,t,by rw[hn];exact fX1 _ (fX1 _ (fX1 _ t1)),by omega,by omega⟩)
      ·obtain⟨t,t1,t2,t3⟩:=some_in (Y-1) (by omega) (by omega);have k2:=cC (a:=y+1) (b:=Y-1) (by omega) (by omega);have k3:Y-1+1=Y:=by omega
       rw[k3]at t3;exact .inr (.inr ⟨by omega,t,by rw[hn];exact fX1 _ (jX1 _ t1),by omega,by omega⟩)
theorem jY {z:Zn} (hz:pG z) (Y:Int) (hY:1≤Y∧Y≤9999):(nrL z Y).Pairwise (fun a b=>a.1<b.1):=by
 have hsh:=hz.2.1.1
 have p1:z.2.1.Pairwise (fun a b=>a.1<b.1):=by
  rw[List.pairwise_iff_getElem];intro i j hi hj hij;have e:∀k (hk:k<z.2.1.length),z.2.1.getD k zSh=z.2.1[k]:=fun k hk=>by rw[aX1,dX1 hk];rfl
  have key:∀(j i:Nat),i<j→j<z.2.1.length→(z.2.1.getD i zSh).1<(z.2.1.getD j zSh).1:=by
   intro j
   induction j with
   | zero=>intro i h1;omega
   | succ j ih=>
    intro i h1 h2;have h3:=(hsh (j+1) h2).2.2 (by omega);rw[Nat.add_sub_cancel]at h3;by_cases c:i=j
    ·subst c;omega
    ·have:=ih i (by omega) (by omega);omega
  have:=key j i hij hj;rwa[e i hi,e j hj]at this
 have py:∀y,(yrL z y).Pairwise (fun a b=>a.1<b.1):=fun y=>by
  cases hl:yrL z y with
  | nil=>exact List.Pairwise.nil
  | cons s l=>
   have hm:s∈yrL z y:=by rw[hl];simp
   obtain⟨a,b,ha,hb,g1,g2,f1,f2,f3,hl2,q⟩:=uR hz hm;have n2:=iP a b ha hb g1 y ⟨by omega,by omega⟩;rw[←hl,nF1 hl2 f2 f3];simp;omega
 have hyy:∀y w,y<w → ∀s∈yrL z y,∀t∈yrL z w,s.1<t.1:=fun y w c s hs t ht=>by have h1:=pV hz hs;have h2:=pV hz ht;have h3:=cC (a:=y+1) (b:=w) (by omega) (by omega);omega
 have hsy:∀y,∀s∈z.2.1,∀t∈yrL z y,s.1<t.1:=fun y s hs t ht=>by
  obtain⟨a,b,ha,hb,g1,g2,f1,f2,f3,hl,q⟩:=uR hz ht;have h1:=pV hz ht;have h3:=cC (a:=z.2.2.2.1) (b:=y) f1 f2;rcases vO1 hz (.inl hs) (.inr ⟨y,f2,f3,ht⟩)with q2 | q2 | q2
  ·rcases q with q | q
   ·rw[q]at hs;cases hs
   ·obtain⟨i,hi,rfl⟩:=sZ1 hs;have e:∀k (hk:k<z.2.1.length),z.2.1.getD k zSh=z.2.1[k]:=fun k hk=>by rw[aX1,dX1 hk];rfl
    by_cases c:i=z.2.1.length-1
    ·rw[←e i hi,c]at q2 ⊢;have:(z.2.1.getD (z.2.1.length-1) zSh).1=t.1:=by rw[q2]
     omega
    ·have:=List.pairwise_iff_getElem.1 p1 i (z.2.1.length-1) hi (by omega) (by omega);rw[←e (z.2.1.length-1) (by omega)]at this;have h4:(z.2.1[i]).1=t.1:=by rw[q2]
     omega
  ·omega
  ·rcases q with q | q
   ·rw[q]at hs;cases hs
   ·obtain⟨i,hi,rfl⟩:=sZ1 hs;have e:∀k (hk:k<z.2.1.length),z.2.1.getD k zSh=z.2.1[k]:=fun k hk=>by rw[aX1,dX1 hk];rfl
    by_cases c:i=z.2.1.length-1
    ·rw[←e i hi,c]at q2 ⊢;omega
    ·have:=List.pairwise_iff_getElem.1 p1 i (z.2.1.length-1) hi (by omega) (by omega);rw[←e (z.2.1.length-1) (by omega)]at this;omega
 unfold nrL;split
 ·exact hZ1.2 ⟨p1,py _,hsy _⟩
 ·refine hZ1.2 ⟨p1,hZ1.2 ⟨py _,hZ1.2 ⟨py _,py _,hyy _ _ (by omega)⟩,fun s hs t ht=>?_⟩,fun s hs t ht=>?_⟩
  ·rcases kX1.1 ht with ht | ht
   ·exact hyy _ _ (by omega) s hs t ht
   ·exact hyy _ _ (by omega) s hs t ht
  ·rcases kX1.1 ht with ht | ht
   ·exact hsy _ s hs t ht
   ·rcases kX1.1 ht with ht | ht
    ·exact hsy _ s hs t ht
    ·exact hsy _ s hs t ht
theorem bN (u:Int):∀{l:List Sp},l.Pairwise (fun a b=>a.1<b.1) → ∀{s:Sp},l.find? (fun s=>decide (s.1>u))=some s → ∀t∈l,u<t.1→s.1≤t.1
 | [],_,_,h,_,_,_=>by cases h
 | x::l,hp,s,h,t,ht,hu=>by
  rw[tY1]at hp;rw[List.find?_cons]at h;by_cases c:x.1>u
  ·rw[dp c]at h;cases h;rcases cX1.1 ht with e | e
   ·rw[e];exact aA2 _
   ·have:=hp.1 t e;omega
  ·rw[dn c]at h;rcases cX1.1 ht with e | e
   ·subst e;omega
   ·exact bN u hp.2 h t e hu
theorem oV (u:Int):∀(l:List Sp),l.Pairwise (fun a b=>a.1<b.1) → ∀(b:Bool) (y:Sp),
  ((l.foldl (befL u) (b,y)).2∈l∧(l.foldl (befL u) (b,y)).1=true∧(l.foldl (befL u) (b,y)).2.1≤u ∧ ∀t∈l,t.1≤u→t.1≤(l.foldl (befL u) (b,y)).2.1)∨((l.foldl (befL u) (b,y))=(b,y) ∧ ∀t∈l,u<t.1)
 | [],_,b,y=>.inr ⟨rfl,fun t h=>by cases h⟩
 | x::l,hp,b,y=>by
  rw[tY1]at hp;rw[List.foldl_cons];by_cases c:x.1≤u
  ·have e:befL u (b,y) x=(true,x):=by unfold befL;rw[if_pos c]
   rw[e];rcases oV u l hp.2 true x with⟨h1,h2,h3,h4⟩ | ⟨h1,h2⟩
   ·refine .inl ⟨yW1 _ h1,h2,h3,fun t ht hu=>?_⟩;rcases cX1.1 ht with e2 | e2
    ·subst e2;have:=hp.1 _ h1;omega
    ·exact h4 t e2 hu
   ·rw[h1];refine .inl ⟨by simp,rfl,c,fun t ht hu=>?_⟩;rcases cX1.1 ht with e2 | e2
    ·rw[e2];exact aA2 _
    ·have:=h2 t e2;omega
  ·have e:befL u (b,y) x=(b,y):=by unfold befL;rw[if_neg c]
   rw[e];have hall:∀t∈l,u<t.1:=fun t ht=>by have:=hp.1 t ht;omega
   rcases oV u l hp.2 b y with⟨h1,h2,h3,h4⟩ | ⟨h1,h2⟩
   ·have:=hall _ h1;omega
   ·refine .inr ⟨h1,fun t ht=>?_⟩;rcases cX1.1 ht with e2 | e2
    ·rw[e2];omega
    ·exact h2 t e2
section
variable {z : Zn} (hz : pG z) {Y u m d : Int} (hY : tF (u / 86400) Y m d)
include hz hY
theorem bP1 :(1≤Y∧Y≤9999)∧fst_ Y*86400≤u∧u<fst_ (Y+1)*86400:=by have _:=hz;have h1:=vB.1 hY.1;have h2:=fE hY;omega
theorem oB1 :(∃s,aftV z Y u=some s∧Sh z s∧u<s.1 ∧ ∀t,Sh z t→u<t.1→s.1≤t.1)∨(aftV z Y u=none ∧ ∀t,Sh z t→t.1≤u):=by
 obtain⟨hy,hu⟩:=bP1 hz hY;have hs:=jY hz Y hy
 cases ha:aftV z Y u with
 | some s=>
  unfold aftV at ha;have h1:=List.mem_of_find?_eq_some ha;have h2:s.1>u:=by simpa using List.find?_some ha
  refine .inl ⟨s,rfl,iU1 hz h1,h2,fun t ht hut=>?_⟩;rcases rV hz hy hu ht with q | ⟨_,t',q1,q2,q3⟩ | ⟨q,_⟩
  ·exact bN u hs ha t q hut
  ·have:=bN u hs ha t' q1 q2;omega
  ·omega
 | none=>
  unfold aftV at ha;rw[List.find?_eq_none]at ha;refine .inr ⟨rfl,fun t ht=>?_⟩;rcases rV hz hy hu ht with q | ⟨_,t',q1,q2,q3⟩ | ⟨q,_⟩
  ·have:=ha t q;simp at this;exact this
  ·have:=ha t' q1;simp at this;omega
  ·exact q
theorem cB1 :(∃s,Sh z s∧s.1≤u∧(∀t,Sh z t→t.1≤u→t.1≤s.1)∧offV z Y u=s.2.1)∨((∀t,Sh z t→u<t.1)∧offV z Y u=z.1):=by
 obtain⟨hy,hu⟩:=bP1 hz hY;have hs:=jY hz Y hy;rcases oV u (nrL z Y) hs false zSh with⟨h1,h2,h3,h4⟩ | ⟨h1,h2⟩
 ·refine .inl ⟨_,iU1 hz h1,h3,fun t ht hut=>?_,by unfold offV;rw[if_pos h2]⟩;rcases rV hz hy hu ht with q | ⟨q,_⟩ | ⟨_,t',q1,q2,q3⟩
  ·exact h4 t q hut
  ·omega
  ·have:=h4 t' q1 q2;omega
 ·refine .inr ⟨fun t ht=>?_,by unfold offV;rw[h1,if_neg (by simp)]⟩;rcases rV hz hy hu ht with q | ⟨q,_⟩ | ⟨_,t',q1,q2,q3⟩
  ·exact h2 t q
  ·exact q
  ·have:=h2 t' q1;omega
end
theorem gH1 (Z:Zn) (hz:pG Z) (hM:xB.f Z=some (true,())) (t:Int) (ht: -62104060800≤t∧t+86400<253370764800)
  (hno:∀s,Sh Z s→utcF Z t-200000<s.1→utcF Z t+400000<s.1):utcF Z (t+86400)=utcF Z t+86400:=by
 obtain⟨Y,m,d,h1,h2,h3,h4⟩:=rB1 Z hz hM t ⟨ht.1,by omega⟩;obtain⟨Y1,m1,d1,g1,g2,g3,g4⟩:=rB1 Z hz hM (t+86400) ⟨by omega,ht.2⟩;have e0:utcF Z t=utcV (offV Z Y (t-64800)) (aftV Z Y (t-64800)) t:=by unfold utcF;rw[h2];rfl
 have e1:utcF Z (t+86400)=utcV (offV Z Y1 (t+86400-64800)) (aftV Z Y1 (t+86400-64800)) (t+86400):=by unfold utcF;rw[g2];rfl
 rw[←e0]at h3 h4;have b0:=aC1 Z hz Y (t-64800);have b1:=aC1 Z hz Y1 (t+86400-64800);unfold offP at b0 b1;have v0:utcF Z t=t-offV Z Y (t-64800):=by
  rcases oB1 hz h1 with⟨s,a1,a2,a3,_⟩ | ⟨a1,_⟩
  ·have:=hno s a2 (by omega);rw[a1]at e0;dsimp only[utcV]at e0;rw[if_pos (by omega)]at e0;exact e0
  ·rw[a1]at e0;exact e0
 have v1:utcF Z (t+86400)=t+86400-offV Z Y1 (t+86400-64800):=by
  rcases oB1 hz g1 with⟨s,a1,a2,a3,_⟩ | ⟨a1,_⟩
  ·have:=hno s a2 (by omega);rw[a1]at e1;dsimp only[utcV]at e1;rw[if_pos (by omega)]at e1;exact e1
  ·rw[a1]at e1;exact e1
 have eo:offV Z Y (t-64800)=offV Z Y1 (t+86400-64800):=by
  rcases cB1 hz h1 with⟨s,s1,s2,s3,s4⟩ | ⟨s1,s2⟩
  ·rcases cB1 hz g1 with⟨r,r1,r2,r3,r4⟩ | ⟨r1,r2⟩
   ·have q1:=r3 s s1 (by omega);have q2:r.1≤t-64800:=Classical.byContradiction fun q=>by have:=hno r r1 (by omega);omega
    have q3:=s3 r r1 q2;rw[s4,r4,sR1 hz s1 r1 (by omega)]
   ·have:=r1 s s1;omega
  ·rcases cB1 hz g1 with⟨r,r1,r2,r3,r4⟩ | ⟨r1,r2⟩
   ·have q1:=s1 r r1;have:=hno r r1 (by omega);omega
   ·rw[s2,r2]
 omega
theorem dC1 (zs:List Zn) (hzs:∀z∈zs,z.2.1.length≤400) (w st du hi:Int):∃S cd,fB.f (w,st,du,false,zR,[],[],()) zs hi=some (S,cd,())∧(¬cd=0→S=[]) ∧
  (cd=0→(-62104060800≤st∧st<253370764800)∧0≤w∧w<(zs.length:Int)∧pG (zs.getD w.toNat zZ)∧xB.f (zs.getD w.toNat zZ)=some (true,())∧1≤du∧du≤2678400∧hi<253339228800 ∧ -62072524800≤hi ∧
   S=if utcF (zs.getD w.toNat zZ) st<hi then [(utcF (zs.getD w.toNat zZ) st,utcF (zs.getD w.toNat zZ) st+du,())]else []):=by
 obtain⟨S,cd,h1,h2,h3⟩:=kJ1 (w,st,du,false,zR,[],[],()) ⟨by unfold yK wU zR;simp,eX1 _,eX1 _⟩ zs hzs hi;refine⟨S,cd,h1,h2,fun c=>?_⟩;obtain⟨hM,z0,z1,hz,hzM,i1,i2,hL,hLl,hU,r,r1,r2,rfl⟩:=h3 c;obtain⟨m1,m2,m3,m4,m5,m6,m7,m8,m9⟩:=hM;dsimp only at m1 m2 m3 m4 m5 z0 z1 hz hzM r1 hU;unfold innP at m3;have hu:=iW _ hz hzM st m3;refine⟨m3,z0,z1,hz,hzM,m4,m5,i2,i1,?_⟩
 have hall:∀x,x∈allL (w,st,du,false,zR,[],[],()) (hi+172800)↔x=st∧x<hi+172800:=fun x=>by rw[nC1];unfold zX;simp
 by_cases c2:utcF (zs.getD w.toNat zZ) st<hi
 ·have e:allL (w,st,du,false,zR,[],[],()) (hi+172800)=[st]:=gJ (gG1 _ _) (List.pairwise_singleton _ _) fun x=>by rw[hall,fY1];exact⟨fun q=>q.1,fun q=>⟨q,by omega⟩⟩
  have hs:spF (utcF (zs.getD w.toNat zZ)) du hi [st]=[(utcF (zs.getD w.toNat zZ) st,utcF (zs.getD w.toNat zZ) st+du,())]:=by unfold spF;rw[List.filter_cons,dp c2,if_pos rfl];rfl
  rw[e,hs]at r1;have:=List.perm_singleton.1 r1;rw[this,if_pos c2];rfl
 ·have hs:spF (utcF (zs.getD w.toNat zZ)) du hi (allL (w,st,du,false,zR,[],[],()) (hi+172800))=[]:=by
   unfold spF;rw[List.filter_eq_nil_iff.2 fun t ht=>?_]
   ·rfl
   ·have:=((hall t).1 ht).1;rw[this];intro q;exact c2 (of_decide_eq_true q)
  rw[hs]at r1;rw[List.perm_nil.1 r1,if_neg c2];rfl
theorem gR (zs:List Zn) (w st du hi:Int) (ok:(c7).par.T.Ok (zs,w,st,du,hi,())):kA.f zs w st du hi=some (true,()):=by
 have hzl:zs.length≤9223372036854775807:=ok.1.1;obtain⟨d,hd,hzs⟩:=fewz zs hzl;rw[kA.f_eq,uI,hd];simp only[wW1,gX1,cond_false]
 cases d with
 | false=>rw[dY1,cond_true]
 | true=>
 have hz0:=(hzs rfl).2;rw[gX1,cond_false];have l1t:kA.l1 zs w st du hi [] true w st du false 0 0 0 0 0 false=some (true,()):=by rw[kA.l1_eq,cond_true,uI];rfl
 obtain⟨S,cd,h1,h2,h3⟩:=dC1 zs hz0 w st du hi;have h1:fB.f (w,st,du,false,(0,0,0,0,0,false,[],[],[],[],[],[],[],[],[],()),[],[],()) zs hi=some (S,cd,()):=h1;rw[h1];simp only[wW1];by_cases c:cd=0
 ·obtain⟨m3,z0,z1,hz,hzM,d1,d2,i2,i1,hS⟩:=h3 c;obtain⟨Z,hZ⟩:∃Z,Z=zs.getD w.toNat zZ:=⟨_,rfl⟩
  rw[←hZ]at hz hzM hS;have hu:=iW Z hz hzM st m3;have hu':oC.f (zs.getD w.toNat (0,[],[],0,())) st=some (utcF Z st,()):=by rw[hZ]at hu ⊢;exact hu.1
  rw[dp c,gX1,cond_false,dn (by omega),cond_false,dn (by omega),kA.l1_eq,cond_false,dp z0,cond_true,dp z1,cond_true,hu'];simp only[wW1];by_cases c2:utcF Z st<hi
  ·rw[if_pos c2]at hS;subst hS;rw[dn (by omega),cond_false,wr (x:=utcF Z st+du) (by omega) (by omega),zU _ _ (by simp),dp rfl];simp only[wW1,gX1,cond_false];rw[wr (x:=st+86400) (by omega) (by omega)];obtain⟨S2,cd2,g1,g2,g3⟩:=dC1 zs hz0 w (st+86400) du hi;have g1:fB.f (w,st+86400,du,false,(0,0,0,0,0,false,[],[],[],[],[],[],[],[],[],()),[],[],()) zs hi=some (S2,cd2,()):=g1;rw[g1];simp only[wW1];have hv:inT (utcF Z st-200000):=⟨by omega,by omega⟩
   obtain⟨Y,mm_,dd_,y1,_,y3⟩:=vS Z hz hzM (utcF Z st-200000) hv;have y3':dD.f (zs.getD w.toNat (0,[],[],0,())) (utcF Z st-200000)=some (match aftV Z Y (utcF Z st-200000)with | some s=>(s,true,()) | none=>(zSh,false,())):=by rw[hZ]at y3 ⊢;exact y3
   rw[wr (x:=utcF Z st-200000) (by omega) (by omega),y3'];simp only[wW1];have l2t:kA.l2 du (utcF Z st) S2 true=some (true,()):=by rw[kA.l2_eq,cond_true,uI];rfl
   by_cases c3:cd2=0
   ·obtain⟨n3,_,_,_,_,_,_,_,_,hS2⟩:=g3 c3;rw[←hZ]at hS2
    have fin:(∀s,Sh Z s→utcF Z st-200000<s.1→utcF Z st+400000<s.1)→kA.l2 du (utcF Z st) S2 (decide (w6 (utcF Z st+86400)≥hi))=some (true,()):=fun hno=>by
     rw[wr (x:=utcF Z st+86400) (by omega) (by omega)];by_cases c4:utcF Z st+86400≥hi
     ·rw[dp c4];exact l2t
     ·have e:=gH1 Z hz hzM st ⟨m3.1,n3.2⟩ hno;rw[e,if_pos (by omega)]at hS2;rw[dn c4,kA.l2_eq,cond_false,kA.l3_eq,uI];simp only[wW1,cond_true];rw[wr (x:=utcF Z st+86400) (by omega) (by omega),wr (by omega) (by omega),zU _ _ (by rw[hS2];simp),hS2,dp rfl];rfl
    rw[dp c3,gX1,cond_false];rcases oB1 hz y1 with⟨s,a1,a2,a3,a4⟩ | ⟨a1,a2⟩
    ·rw[a1];dsimp only;rw[cond_true,wr (x:=utcF Z st+400000) (by omega) (by omega)];by_cases c5:s.1≤utcF Z st+400000
     ·rw[dp c5,cond_true];exact l2t
     ·rw[dn c5,cond_false];exact fin fun t ht q=>by have:=a4 t ht q;omega
    ·rw[a1];dsimp only;rw[cond_false];exact fin fun t ht q=>by have:=a2 t ht;omega
   ·rw[dn c3,dY1,cond_true];exact l2t
  ·rw[if_neg c2]at hS;subst hS;rw[dp (by omega),cond_true,uI];rfl
 ·have hS:=h2 c;subst hS;rw[dn c,dY1,cond_true];exact l1t
end Go.GV.YtegmfagkklekaaaGreatDoor
