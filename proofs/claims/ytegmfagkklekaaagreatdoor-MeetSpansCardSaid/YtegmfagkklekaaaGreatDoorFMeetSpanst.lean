/-
Part of the words that MeetSpans is proved with: no statement of its own, no conditions.
-/
import Derived.Test.YtegmfagkklekaaaGreatDoorFMeetSpanss
set_option linter.unusedVariables false
set_option linter.unusedSimpArgs false
namespace Go.GV.YtegmfagkklekaaaGreatDoor
open Go.Proofs
theorem vZ1 :kD.f (0,1767603600,3600,true,r0,[],[],()) 1772496000=some ([1767603600,1768208400],0,()):=by
 rw[kD.f_eq,ex_m];dsimp only;simp only[hE2,lE2,cond_false,cond_true];rw[ex_l];simp only[hE2];have h:=(qV 0 1767603600 3600 true 3 1 2 0 0 false [] [] [] [] [] [] [] [] [] [] [] 1772496000 List.Pairwise.nil (by simp) [1767603600,1768208400] (by simp) (by simp)).1;have hL:locL [1767603600,1768208400] [] [] 1772496000=[1767603600,1768208400]:=by
  refine kL (jC1 _ _ _ _) (by unfold Rise;simp) fun x=>?_
  rw[iZ];simp;omega
 unfold locE at h;rw[hL,if_neg (by simp)]at h;exact h
theorem tT1 :nC.f (0,1767603600,3600,true,r0,[],[],()) [(3600,[],[],0,())] 1772323200=some ([(1767600000,1767603600,()),(1768204800,1768208400,())],0,()):=by
 let U:Int→Int:=fun t=>t-3600
 have hU:okU (([(3600,[],[],0,())]:List Zn).getD (0:Int).toNat zZ) U [1767603600,1768208400]:=by
  intro t ht;simp only[pE2,List.not_mem_nil,or_false]at ht;rcases ht with rfl | rfl
  ·exact⟨aD2,by decide,by decide⟩
  ·exact⟨lD2,by decide,by decide⟩
 obtain⟨r,h1,h2,h3⟩:=tD1 [(3600,[],[],0,())] 1772323200 [1767603600,1768208400] U (0,1767603600,3600,true,r0,[],[],()) (by simp) (by simp) (by simp) hU;have hs:spF U 3600 1772323200 [1767603600,1768208400]=[(1767600000,1767603600,()),(1768204800,1768208400,())]:=by decide
 have h1:r.Perm [(1767600000,1767603600,()),(1768204800,1768208400,())]:=by rw[←hs];exact h1
 have hr:r=[(1767600000,1767603600,()),(1768204800,1768208400,())]:=by
  have hl:=h1.length_eq
  match r,hl with
  | [a,b],_=>
   have ha:=h1.mem_iff.1 (show a∈[a,b] by simp);have hb:=h1.mem_iff.1 (show b∈[a,b] by simp);have hab:=(xF2.1 h2).1 b (by simp);have q1:=h1.mem_iff.2 (show((1767600000,1767603600,()):Sp)∈_ by simp);have q2:=h1.mem_iff.2 (show((1768204800,1768208400,()):Sp)∈_ by simp);simp only[pE2,List.not_mem_nil,or_false]at ha hb q1 q2;rcases ha with rfl | rfl <;> rcases hb with rfl | rfl
   ·simp at q2
   ·rfl
   ·simp at hab
   ·simp at q1
 subst hr;rw[nC.f_eq,ex_m];dsimp only;simp only[hE2,lE2,cond_false];rw[show rD.f (([(3600,[],[],0,())]:List Zn).getD (0:Int).toNat (0,[],[],0,()))=some (true,())from ex_z,hB2,iA2];simp(disch:=omega)only[ss,nC.l1_eq,iF2,lG2];rw[show(1772323200+172800:Int)=1772496000 from rfl,vZ1];simp(disch:=omega)only[ss];rw[show(([1767603600,1768208400]:List Int).length:Int)=((([1767603600,1768208400]:List Int).length:Nat):Int)from rfl];refine Eq.trans h3 ?_;decide
theorem rR :bH.f=some (true,()):=by rw[bH.f_eq,ex_p,uC2];simp only[hE2,iF2,lG2];rw[tT1,ex_a,ex_b];simp only[hE2];rw[show w6 (1767600000+3600)=1767603600 by rw[wr (by omega) (by omega)];rfl,show w6 (1768204800+3600)=1768208400 by rw[wr (by omega) (by omega)];rfl,fH1 _ _ (by simp)];simp(disch:=omega)only[ss]
theorem dR {l:List Int} (h:uO l):Rise l:=xG1 fun j h0 hj=>(lL h).2.1 j hj h0
noncomputable def eG1 (m:Mt) (e:Int):List Int:=if m.2.2.2.1=true then LS m.2.2.2.2.1 m.2.1 e else [m.2.1]
noncomputable def allL (m:Mt) (e:Int):List Int:=locL (eG1 m e) m.2.2.2.2.2.1 m.2.2.2.2.2.2.1 e
theorem jJ1 {m:Mt} {e x:Int}:x∈allL m e↔(x∈eG1 m e∨x∈m.2.2.2.2.2.1)∧x∉m.2.2.2.2.2.2.1∧x<e:=iZ
theorem aO1 (m:Mt) (hs:mP m) (e:Int):∃L cd,kD.f m e=some (L,cd,())∧(¬cd=0→L=[]) ∧
  (cd=0→mayM m∧L=allL m e∧L.length≤4096∧(m.2.2.2.1=true→okE m.2.1 e))∧(¬mayM m→cd=1):=by
 obtain⟨b,hb,hb2⟩:=qX1 m hs;by_cases hM:mayM m
 ·have hb1:b=true:=hb2.2 hM;subst hb1;obtain⟨z,st,du,rc,⟨f,iv,ct,un,wk,en,mo,we,yd,md,dy,ho,mi,se,po,⟨⟩⟩,da,ex,⟨⟩⟩:=m;have hM0:=hM;obtain⟨m1,m2,m3,m4,m5,m6,m7,m8,m9⟩:=hM;obtain⟨s1,s2,s3⟩:=hs;dsimp only at s1 s2 s3 m1 m2 m3 m4 m5 m6 m7 m8 m9;have hda:=(lL m6).1;have hex:=(lL m7).1;have hrx:=dR m7;rw[kD.f_eq,hb];dsimp only;simp only[hE2,lE2,cond_false];have fin:∀l:List Int,l.length≤4096→l=eG1 (z,st,du,rc,(f,iv,ct,un,wk,en,mo,we,yd,md,dy,ho,mi,se,po,()),da,ex,()) e→(rc=true→okE st e) → ∃L cd,locE l da ex e=some (L,cd,())∧(¬cd=0→L=[]) ∧
    (cd=0→mayM (z,st,du,rc,(f,iv,ct,un,wk,en,mo,we,yd,md,dy,ho,mi,se,po,()),da,ex,())∧L=allL (z,st,du,rc,(f,iv,ct,un,wk,en,mo,we,yd,md,dy,ho,mi,se,po,()),da,ex,()) e∧L.length≤4096∧(rc=true→okE st e))∧(¬mayM (z,st,du,rc,(f,iv,ct,un,wk,en,mo,we,yd,md,dy,ho,mi,se,po,()),da,ex,())→cd=1):=by
   intro l hl hlb hok;unfold locE;by_cases c:((locL l da ex e).length:Int)>4096
   ·rw[if_pos c];exact⟨_,_,rfl,fun _=>rfl,fun q=>by omega,fun q=>absurd hM0 q⟩
   ·rw[if_neg c];exact⟨_,_,rfl,fun q=>absurd rfl q,fun _=>⟨hM0,by unfold allL;rw[←hlb],by omega,hok⟩,fun q=>absurd hM0 q⟩
  cases rc with
  | false=>
   rw[cond_false,(qV z st du false f iv ct un wk en mo we yd md dy ho mi se po da ex e hrx (by omega) [st] (by simp) (by omega)).2];exact fin [st] (by simp) (by unfold eG1;rw[if_neg (by simp)]) fun q=>by cases q
  | true=>
   obtain⟨L,cd,h1,h2,h3,_⟩:=eJ1 (f,iv,ct,un,wk,en,mo,we,yd,md,dy,ho,mi,se,po,()) s1 st e 4096 (by omega) (by omega);rw[cond_true,h1];simp only[hE2];by_cases c:cd=0
   ·obtain⟨_,g2,g3,g4⟩:=h3 c;rw[dp c,lE2,cond_false,(qV z st du true f iv ct un wk en mo we yd md dy ho mi se po da ex e hrx (by omega) L (by omega) (by omega)).1];obtain⟨L',cd',q1,q2,q3,q4⟩:=fin L (by omega) (by unfold eG1;rw[if_pos rfl];exact g3) fun _=>g2
    exact⟨L',cd',q1,q2,fun q=>⟨(q3 q).1,(q3 q).2.1,(q3 q).2.2.1,fun _=>(q3 q).2.2.2 rfl⟩,q4⟩
   ·rw[dn c,eF2,cond_true];exact⟨_,_,rfl,fun _=>rfl,fun q=>absurd q c,fun q=>absurd hM0 q⟩
 ·have hb1:b=false:=by
   cases b with
   | true=>exact absurd (hb2.1 rfl) hM
   | false=>rfl
  rw[kD.f_eq,hb,hb1];exact⟨[],1,rfl,fun _=>rfl,fun q=>by omega,fun _=>rfl⟩
theorem qL1 {m:Mt} (hM:mayM m) {e x:Int} (h:x∈eG1 m e∨x∈m.2.2.2.2.2.1): -62104060800≤x∧(x<253370764800∨x<e):=by
 obtain⟨m1,m2,m3,m4,m5,m6,m7,m8,m9⟩:=hM;unfold innP at m3;rcases h with h | h
 ·unfold eG1 at h;split at h
  ·have:=dW1 h;omega
  ·rw[wF2]at h;omega
 ·have:=(lL m6).2.2 x h;unfold innP at this;omega
noncomputable def utcF (Z:Zn) (t:Int):Int:=((tE.f Z t).getD (0,())).1
theorem pS1 (Z:Zn) (hz:yJ Z) (hM:rD.f Z=some (true,())) (t:Int) (ht: -62104060800≤t∧t<253370764800):tE.f Z t=some (utcF Z t,())∧t-64800≤utcF Z t∧utcF Z t≤t+64800:=by obtain⟨Y,m,d,_,h1,h2,h3⟩:=cM1 Z hz hM t ht;unfold utcF;rw[h1];exact⟨rfl,h2,h3⟩
theorem iW1 (zs:List Zn) (hl:zs.length≤9223372036854775807):∀(k i:Nat),30-i=k→i≤30→i≤zs.length → ∃b,fB.l1 zs (i:Int)=some (b,())∧(b=true→zs.length≤30 ∧ ∀j,i≤j→j<zs.length→(zs.getD j zZ).2.1.length≤400):=by
 have fin:∀i:Nat,(zs.length≤i∨i=30) → ∃b,fB.l2 zs (i:Int) false=some (b,())∧(b=true→zs.length≤30 ∧ ∀j,i≤j→j<zs.length→(zs.getD j zZ).2.1.length≤400):=fun i h=>by rw[fB.l2_eq,cond_false,fB.l3_eq];refine⟨_,rfl,fun q=>?_⟩;rw[decide_eq_true_eq]at q;exact⟨by omega,fun j h1 h2=>by omega⟩
 intro k
 induction k with
 | zero=>
  intro i hk hi hiz;have e:i=30:=by omega
  rw[fB.l1_eq];by_cases c:(i:Int)<(zs.length:Int)
  ·rw[dp c,cond_true,dn (by omega)];exact fin i (.inr e)
  ·rw[dn c,cond_false];exact fin i (.inl (by omega))
 | succ k ih=>
  intro i hk hi hiz;rw[fB.l1_eq];by_cases c:(i:Int)<(zs.length:Int)
  ·rw[dp c,cond_true,dp (by omega),fB.l2_eq,cond_true];have hf:iI.f (zs.getD i zZ)=some (decide ((zs.getD i zZ).2.1.length≤400∧(zs.getD i zZ).2.2.1.length≤400),()):=by
    rw[iI.f_eq];by_cases a:((zs.getD i zZ).2.1.length:Int)≤400
    ·rw[dp a,cond_true]
     congr 2
     exact decide_eq_decide.2 (by omega)
    ·rw[dn a,cond_false,dn (by omega)]
   simp(disch:=omega)only[ss,hf];by_cases a:(zs.getD i zZ).2.1.length≤400∧(zs.getD i zZ).2.2.1.length≤400
   ·rw[dp a,lE2,cond_false];obtain⟨b,h1,h2⟩:=ih (i+1) (by omega) (by omega) (by omega);refine⟨b,h1,fun q=>⟨(h2 q).1,fun j h3 h4=>?_⟩⟩;by_cases e:j=i
    ·subst e;exact a.1
    ·exact(h2 q).2 j (by omega) h4
   ·rw[dn a,eF2,cond_true];exact⟨false,rfl,fun q=>by cases q⟩
  ·rw[dn c,cond_false];exact fin i (.inl (by omega))
theorem fewz (zs:List Zn) (hl:zs.length≤9223372036854775807):∃b,fB.f zs=some (b,())∧(b=true→zs.length≤30 ∧ ∀z∈zs,z.2.1.length≤400):=by obtain⟨b,h1,h2⟩:=iW1 zs hl _ 0 rfl (kE2 _) (kE2 _);rw[fB.f_eq];refine⟨b,h1,fun q=>⟨(h2 q).1,fun z hz=>?_⟩⟩;obtain⟨j,hj,rfl⟩:=oG2 hz;have:=(h2 q).2 j (kE2 _) hj;rwa[oE2,sE2 hj]at this
theorem rQ1 (m:Mt) (hs:mP m) (e:Int):∃b,aD.f m e=some (b,()):=by
 have l1t:aD.l1 e true m=some (true,()):=by rw[aD.l1_eq,cond_true]
 rw[aD.f_eq]
 cases m.2.2.2.1 with
 | false=>exact⟨_,l1t⟩
 | true=>
  obtain⟨b,hb⟩:=pO m.2.2.2.2.1 hs.1;have hv:bA.f m.2.2.2.2.1=some (b,()):=by rw[←gO _ hs.1];exact hb
  rw[lE2,cond_false,hv];simp only[hE2]
  cases b with
  | false=>exact⟨_,l1t⟩
  | true=>
   rw[lE2,cond_false,(oH m.2.1).2];simp only[hE2];by_cases c:inT m.2.1
   ·rw[dp c,lE2,cond_false,(oH e).2];simp only[hE2];by_cases c2:inT e
    ·rw[dp c2,lE2,aD.l1_eq,cond_false];obtain⟨k,hk⟩:=jP1 m.2.2.2.2.1 m.2.1 (w6 (w6 (Int.tdiv (w6 (e-m.2.1)) 86400)+3)) hs.1;rw[hk];exact⟨_,rfl⟩
    ·rw[dn c2];exact⟨_,l1t⟩
   ·rw[dn c];exact⟨_,l1t⟩
def OffP (z:Zn) (u v:Int):Prop:=(∃s,Sh z s∧s.1≤u∧(∀t,Sh z t→t.1≤u→t.1≤s.1)∧v=s.2.1)∨((∀t,Sh z t→u<t.1)∧v=z.1)
section
variable {z : Zn} (hz : yJ z)
include hz
theorem xI1 {u u' v v':Int} (h:OffP z u v) (g:OffP z u' v') (hu:u≤u') (hno:∀t,Sh z t → ¬(u<t.1∧t.1≤u')):v=v':=by
 rcases h with⟨s,h1,h2,h3,rfl⟩ | ⟨h1,rfl⟩
 ·rcases g with⟨s',g1,g2,g3,rfl⟩ | ⟨g1,_⟩
  ·have a1:=g3 s h1 (by omega);have a2:s'.1≤u:=Classical.byContradiction fun q=>hno s' g1 ⟨by omega,g2⟩
   have a3:=h3 s' g1 a2;rw[iG1 hz h1 g1 (by omega)]
  ·have:=g1 s h1;omega
 ·rcases g with⟨s',g1,g2,g3,rfl⟩ | ⟨g1,rfl⟩
  ·exact absurd ⟨h1 s' g1,g2⟩ (hno s' g1)
  ·rfl
theorem eA2 {u v:Int} {s:Sp} (h:OffP z u v) (hs:Sh z s) (h1:s.1≤u) (hno:∀t,Sh z t → ¬(s.1<t.1∧t.1≤u)):v=s.2.1:=by
 rcases h with⟨s',g1,g2,g3,rfl⟩ | ⟨g1,_⟩
 ·have a1:=g3 s hs h1;have a2:s'.1≤s.1:=Classical.byContradiction fun q=>hno s' g1 ⟨by omega,g2⟩
  rw[iG1 hz g1 hs (by omega)]
 ·have:=g1 s hs;omega
theorem kA2 (u:Int) (hu:inT u):∃v,nF.f z u=some (v,())∧OffP z u v∧(-64800≤v∧v≤64800):=by obtain⟨Y,m,d,h1,h2,_⟩:=bB1 z hz u hu;exact⟨_,h2,yE1 hz h1,wE1 z hz Y u⟩
theorem rB2 (u:Int) (hu: -62104060800-70000≤u∧u≤253370764800+70000):∃v,zH.f z u=some (u+v,())∧OffP z u v∧(-64800≤v∧v≤64800):=by
 have hi:inT u:=by unfold inT;omega
 obtain⟨Y,m,d,h1,h2,h3⟩:=bB1 z hz u hi;have hb:=wE1 z hz Y u;unfold offP at hb;refine⟨_,?_,yE1 hz h1,hb⟩;rw[zH.f_eq,h3];simp only[hE2,lE2,cond_false];rw[(oH u).2,dp (show -62135596800≤u∧u≤253402300799 from hi)];simp only[hE2,lE2,cond_false];rw[h2];simp only[hE2];rw[wr (by omega) (by omega)]
theorem oR1 (hM:rD.f z=some (true,())) (t:Int) (ht: -62104060800≤t∧t<253370764800):vC.f z t=some (utcF z t,()):=by
 obtain⟨Y,m,d,h1,h2,h3,h4⟩:=cM1 z hz hM t ht;have e0:utcF z t=utcV (offV z Y (t-64800)) (aftV z Y (t-64800)) t:=by unfold utcF;rw[h2];rfl
 have hO:=yE1 hz h1;have hA:=aX1 hz h1;rw[e0];clear h2 h3 h4 e0;generalize offV z Y (t-64800)=ah at hO ⊢;generalize aftV z Y (t-64800)=af at hA ⊢;have hO:OffP z (t-64800) ah:=hO;obtain⟨o,o1,o2,o3⟩:=kA2 hz (t-64800-1) (by unfold inT;omega);obtain⟨p,p1,p2,p3⟩:=kA2 hz (t+64800) (by unfold inT;omega);obtain⟨va,a1,a2,a3⟩:=rB2 hz (t-o) (by omega);obtain⟨vb,b1,b2,b3⟩:=rB2 hz (t-p) (by omega);obtain⟨_,_,_,_,_,hmz⟩:=bB1 z hz t (by unfold inT;omega);have hf2:rC.f 2=some (fst_ 2,()):=pL 2 (by omega) (by omega);have hf9:rC.f 9999=some (fst_ 9999,()):=pL 9999 (by omega) (by omega)
 have hl2a:vC.l2 t o (t-p) (t-o) z=some (if t=t-p+vb then t-p else if t=t-o+va then t-o else t-o,()):=by
  rw[vC.l2_eq,b1,a1];simp only[hE2];rw[wr (show -9223372036854775808≤t-o by omega) (by omega)];by_cases c1:t=t-p+vb
  ·rw[dp c1,if_pos c1,cond_true]
  ·rw[dn c1,if_neg c1,cond_false];by_cases c2:t=t-o+va
   ·rw[dp c2,if_pos c2,cond_true]
   ·rw[dn c2,if_neg c2,cond_false]
 have hl2b:vC.l2 t o (t-o) (t-p) z=some (if t=t-o+va then t-o else if t=t-p+vb then t-p else t-o,()):=by
  rw[vC.l2_eq,b1,a1];simp only[hE2];rw[wr (show -9223372036854775808≤t-o by omega) (by omega)];by_cases c2:t=t-o+va
  ·rw[dp c2,if_pos c2,cond_true]
  ·rw[dn c2,if_neg c2,cond_false];by_cases c1:t=t-p+vb
   ·rw[dp c1,if_pos c1,cond_true]
   ·rw[dn c1,if_neg c1,cond_false]
 have hval:vC.f z t=some (if t-p<t-o then(if t=t-p+vb then t-p else if t=t-o+va then t-o else t-o)else(if t=t-o+va then t-o else if t=t-p+vb then t-p else t-o),()):=by
  rw[vC.f_eq,hmz];simp only[hE2,lE2,cond_false];rw[hf2];simp only[hE2];rw[show fst_ 2*86400 = -62104060800 by decide,wr (show -9223372036854775808≤(-62104060800:Int) by omega) (by omega),dn (show ¬t < -62104060800 by omega),cond_false,hf9];simp only[hE2];rw[show fst_ 9999*86400=253370764800 by decide,wr (show -9223372036854775808≤(253370764800:Int) by omega) (by omega),dn (show ¬t≥253370764800 by omega),vC.l1_eq,cond_false,wr (show -9223372036854775808≤t-64800 by omega) (by omega),wr (show -9223372036854775808≤t-64800-1 by omega) (by omega),wr (show -9223372036854775808≤t+64800 by omega) (by omega),o1];simp only[hE2];rw[p1];simp only[hE2];rw[wr (show -9223372036854775808≤t-p by omega) (by omega),wr (show -9223372036854775808≤t-o by omega) (by omega)];by_cases c:t-p<t-o
  ·rw[dp c,cond_true,if_pos c,hl2a]
  ·rw[dn c,cond_false,if_neg c,hl2b]
 rw[hval];clear hval hl2a hl2b o1 p1 a1 b1 hf2 hf9 hmz
 congr 2
 by_cases hs:∃s,Sh z s∧t-64800-1<s.1∧s.1≤t+64800
 ·obtain⟨s,s1,s2,s3⟩:=hs
  have only:∀t',Sh z t'→t-64800-1<t'.1→t'.1≤t+64800→t'.1=s.1:=fun t' g1 g2 g3=>by rcases kO1 hz s1 g1 with rfl | q | q <;> omega
  have late:∀{u v:Int},OffP z u v→s.1≤u→u≤t+64800→v=s.2.1:=fun {u v} h g1 g2=>eA2 hz h s1 g1 fun t' q1 q2=>by have:=only t' q1 (by omega) (by omega);omega
  have early:∀{u v:Int},OffP z u v→t-64800-1≤u→u<s.1→o=v:=fun {u v} h g1 g2=>xI1 hz o2 h g1 fun t' q1 q2=>by have:=only t' q1 (by omega) (by omega);omega
  have hp:p=s.2.1:=late p2 (by omega) (vF2 _)
  have hva:va=if t-o<s.1 then o else s.2.1:=by
   by_cases c:t-o<s.1
   ·rw[if_pos c];exact(early a2 (by omega) c).symm
   ·rw[if_neg c];exact late a2 (by omega) (by omega)
  have hvb:vb=if t-p<s.1 then o else s.2.1:=by
   by_cases c:t-p<s.1
   ·rw[if_pos c];exact(early b2 (by omega) c).symm
   ·rw[if_neg c];exact late b2 (by omega) (by omega)
  generalize hq0:s.2.1=q at hp hva hvb late;subst hp
  have hR:utcV ah af t=if s.1=t-64800 then t-p else if t-o<s.1 then t-o else if t-p≥s.1 then t-p else t-o:=by
   by_cases c:s.1=t-64800
   ·have hah:ah=p:=late hO (by omega) (by omega);rw[if_pos c,hah];rcases hA with⟨s',g0,g1,g2,g3⟩ | ⟨g0,_⟩
    ·rw[g0];unfold utcV;dsimp only;have:¬s'.1≤t+64800:=fun q=>by have:=only s' g1 (by omega) q;omega
     rw[if_pos (by omega)]
    ·rw[g0];rfl
   ·have hah:o=ah:=early hO (by omega) (by omega);rw[if_neg c,←hah];rcases hA with⟨s',g0,g1,g2,g3⟩ | ⟨g0,g1⟩
    ·have h5:=g3 s s1 (by omega);have h6:=only s' g1 (by omega) (by omega);have h7:s'=s:=iG1 hz g1 s1 h6;subst h7;have hq:s'.2.1=p:=hq0;rw[g0];unfold utcV;dsimp only;rw[hq]
    ·have:=g1 s s1;omega
  rw[hR,hva,hvb];clear hR hva hvb a2 b2 hO hA only late early
  repeat' split
  all_goals omega
 ·have none_:∀{u v:Int},OffP z u v→t-64800-1≤u→u≤t+64800→o=v:=fun {u v} h g1 g2=>xI1 hz o2 h g1 fun t' q1 q2=>hs ⟨t',q1,q2.1,by omega⟩
  have e1:=none_ p2 (by omega) (vF2 _);have e2:=none_ a2 (by omega) (by omega);have e3:=none_ hO (by omega) (by omega);have hR:utcV ah af t=t-o:=by
   rw[←e3];rcases hA with⟨s',g0,g1,g2,g3⟩ | ⟨g0,_⟩
   ·rw[g0];unfold utcV;dsimp only;have:¬s'.1≤t+64800:=fun q=>hs ⟨s',g1,by omega,q⟩
    rw[if_pos (by omega)]
   ·rw[g0];rfl
  rw[hR]
  repeat' split
  all_goals omega
end
theorem zR1 {c:Bool} {H R X:Option (Bool×Unit)} {p q:Prop} (hX:X=some (false,())) (hH:c=true→oC H p) (hc:c=false→p) (hR:oC R q):
  oC (bif c then H.bind (fun t=>bif !t.1 then X else R)else R) (p∧q):=by
 obtain⟨b,r1,r2⟩:=hR
 cases c with
 | false=>
  have:=hc rfl;exact⟨b,r1,r2.trans ⟨fun h=>⟨this,h⟩,fun h=>h.2⟩⟩
 | true=>
  obtain⟨d,h1,h2⟩:=hH rfl;rw[cond_true,h1];simp only[hE2]
  cases d with
  | false=>exact⟨false,hX,⟨fun h=>(by cases h),fun h=>h2.2 h.1⟩⟩
  | true=>exact⟨b,r1,r2.trans ⟨fun h=>⟨h2.1 rfl,h⟩,fun h=>h.2⟩⟩
theorem bF1 (l:List Int) (n all:Int) (hl:l.length≤1000000) (hn:0≤n∧n≤1000) (ha:0≤all∧all≤1000):oC (wC.f l n all) (n∈l∨n-all-1∈l):=by
 rw[wC.f_eq,yP l n hl];by_cases c:n∈l
 ·exact⟨true,by simp(disch:=omega)only[ss,dp c],by simp[c]⟩
 ·refine⟨decide (n-all-1∈l),by simp(disch:=omega)only[ss,dn c,yP l (n-all-1) hl],?_⟩;rw[decide_eq_true_iff];simp[c]
theorem aG1 (y w:Int) (hw:0≤w∧w≤6):qD.f y w=some (if 1≤y∧y≤9999 then(wks y w,0,())else(0,1,())):=by
 have l1t:qD.l1 y w true=some (0,1,()):=by rw[qD.l1_eq,cond_true]
 rw[qD.f_eq,l1t];by_cases c1:y<1
 ·rw[dp c1,cond_true,if_neg (by omega)]
 ·by_cases c2:y>9999
  ·rw[dn c1,cond_false,dp c2,cond_true,if_neg (by omega)]
  ·have h1:=kQ1 y w (by omega) (by omega) hw.1 hw.2 (pL y (by omega) (by omega));have h2:=kQ1 (y+1) w (by omega) (by omega) hw.1 hw.2 (pL (y+1) (by omega) (by omega));have hb:=xP1 y w (by omega);have hn:=eK y w;have hf:=vH y (by omega) (by omega);have hd:w1 (y+1) w-w1 y w=7*wks y w:=by omega
   have hq:Int.tdiv (7*wks y w) 7=wks y w:=by rw[Int.mul_tdiv_cancel_left _ (by omega)]
   rw[dn c1,cond_false,dn c2,cond_false,dn (show ¬w<0 by omega),cond_false,dn (show ¬w>6 by omega),qD.l1_eq,cond_false,if_pos (by omega)];simp(disch:=omega)only[ss,h1,h2,hd,hq]
theorem cQ (n y m d:Int) (h:iH n y m d) (e:lB.f n=some (y,m,d,0,())):uG.f n=some (y,n-fst_ y+1,0,()):=by obtain⟨q1,q2,q3,q4,q5,q6⟩:=mF h;obtain⟨v1,v2,v3,v4⟩:=eC.1 h.1;have hs13:=iJ y (by omega);rw[uG.f_eq,e];simp(disch:=omega)only[ss,pL y (by omega) (by omega)]
theorem qT1 (n fr bk:Int) (f iv ct un wkst:Int) (en:Bool) (mo we yd md:List Int) (dy:List Dy) (ho mi se po:List Int) (hl:dy.length≤1000000):∀(k i:Nat),dy.length-i=k→i≤dy.length →
  oC (jA.l3 n fr bk i (f,iv,ct,un,wkst,en,mo,we,yd,md,dy,ho,mi,se,po,())) (∃x∈dy.drop i,x.2.1=wk n∧(x.1=0∨x.1=fr∨x.1=bk)):=by
 intro k
 induction k with
 | zero=>
  intro i hk hil;rw[jA.l3_eq,cG2 (by omega)];exact⟨false,by simp(disch:=omega)only[ss],by simp⟩
 | succ k ih=>
  intro i hk hil;have hlt:i<dy.length:=by omega
  obtain⟨b,h1,h2⟩:=ih (i+1) (by omega) (by omega);rw[gF2,hF2]at h1;rw[jA.l3_eq,iB ((0,0,()):Dy) hlt,cF];dsimp only;generalize hx:dy.getD i ((0,0,()):Dy)=x;have hx':dy.getD i ((0,0,()):Int×Int×Unit)=x:=hx;have l4t:jA.l4 n fr bk i true (f,iv,ct,un,wkst,en,mo,we,yd,md,dy,ho,mi,se,po,())=some (true,()):=by rw[jA.l4_eq,cond_true]
  by_cases c:x.2.1=wk n∧(x.1=0∨x.1=fr∨x.1=bk)
  ·refine⟨true,?_,by simp only[true_iff];exact⟨x,nE2 ..,c⟩⟩;obtain⟨c1,c2⟩:=c;by_cases d0:x.1=0
   ·simp(disch:=omega)only[ss,hx',l4t]
   ·by_cases d1:x.1=fr
    ·simp(disch:=omega)only[ss,hx',l4t]
    ·have d2:x.1=bk:=by omega
     simp(disch:=omega)only[ss,hx',l4t]
  ·refine⟨b,?_,?_⟩
   ·by_cases c1:x.2.1=wk n
    ·have d0:¬x.1=0:=fun q=>c ⟨c1,.inl q⟩
     have d1:¬x.1=fr:=fun q=>c ⟨c1,.inr (.inl q)⟩
     have d2:¬x.1=bk:=fun q=>c ⟨c1,.inr (.inr q)⟩
     simp(disch:=omega)only[ss,hx',jA.l4_eq,h1]
    ·simp(disch:=omega)only[ss,hx',jA.l4_eq,h1]
   ·rw[h2];constructor
    ·rintro⟨z,hz,h⟩;exact⟨z,mE2 _ hz,h⟩
    ·rintro⟨z,hz,h⟩;rcases pE2.1 hz with e | hz
     ·exact absurd (e ▸ h) c
     ·exact⟨z,hz,h⟩
section
variable (f iv ct un wkst : Int) (en : Bool) (mo we yd md : List Int) (dy : List Dy) (ho mi se po : List Int)
theorem uL1 (n:Int) (hs:we.length≤100000) (hn: -719162≤n∧n≤2932896) (hw:0≤wkst∧wkst≤6) (hne:we≠[]):oC (xF.f (f,iv,ct,un,wkst,en,mo,we,yd,md,dy,ho,mi,se,po,()) n) (wkP wkst we n):=by
 unfold wkP hasP;obtain⟨Y,k,w1_,w2,w3,w4,w5,_,w6⟩:=aQ n wkst hn.1 hn.2 hw.1 hw.2;have hW:=aG1 Y wkst hw;rw[xF.f_eq];dsimp only;rw[w6];simp only[hE2];rw[hW];by_cases cY:1≤Y∧Y≤9999
 ·rw[if_pos cY];have hb:=xP1 Y wkst (by omega);obtain⟨b,h1,h2⟩:=bF1 we k (wks Y wkst) (by omega) (by omega) (by omega);refine⟨b,by simp(disch:=omega)only[ss,h1],?_⟩;rw[h2];constructor
  ·exact fun h=>.inr ⟨Y,k,w1_,cY.1,cY.2,.inr h⟩
  ·rintro(q | ⟨Y',k',x1,x2,x3,x4⟩)
   ·exact absurd q hne
   ·obtain⟨e1,e2⟩:=xL w2 (by omega) w1_ x1;rw[e1,e2];exact x4.resolve_left hne
 ·rw[if_neg cY];refine⟨false,by simp(disch:=omega)only[ss],?_⟩;simp only[pF2,false_iff];rintro(q | ⟨Y',k',x1,x2,x3,_⟩)
  ·exact hne q
  ·obtain⟨e1,_⟩:=xL w2 (by omega) w1_ x1;exact cY (by omega)
theorem yT1 (n y m d:Int) (hs:mo.length≤100000∧dy.length≤100000) (h:iH n y m d) (e:lB.f n=some (y,m,d,0,())) (hf:1≤f) (hne:dy≠[]) (hnum:∀x∈dy,x.1≠0→f=2∨f=1):
  oC (jA.f (f,iv,ct,un,wkst,en,mo,we,yd,md,dy,ho,mi,se,po,()) n) (wdP f mo dy n y m d):=by
 obtain⟨q1,q2,q3,q4,q5,q6⟩:=mF h;obtain⟨v1,v2,v3,v4⟩:=eC.1 h.1;have hy:=iJ y (by omega);have h13:=eD1 y;have hs13:=lH y v1;have hml:=qH y m
 have go:∀fr al:Int,1≤fr→fr≤al→al≤366→oC (jA.l2 n fr al (f,iv,ct,un,wkst,en,mo,we,yd,md,dy,ho,mi,se,po,())) (∃x∈dy,x.2.1=wk n∧(x.1=0∨x.1=(fr-1)/7+1∨x.1 = -((al-fr)/7+1))):=fun fr al h1 h2 h3=>by
  have t:=qT1 n ((fr-1)/7+1) (-((al-fr)/7+1)) f iv ct un wkst en mo we yd md dy ho mi se po (by omega) _ 0 rfl (kE2 _);rw[qE2,yE2]at t;have e1:Int.tdiv (fr-1) 7=(fr-1)/7:=tdn (by omega) 7;have e2:Int.tdiv (al-fr) 7=(al-fr)/7:=tdn (by omega) 7;have e3:0-((al-fr)/7+1) = -((al-fr)/7+1):=by omega
  rw[jA.l2_eq];simp(disch:=omega)only[ss,e1,e2,e3];exact t
 rw[jA.f_eq,e];simp only[hE2];rw[mH y m (by omega)];simp only[hE2];unfold wdP
 have conv:∀{q:Prop},(q↔(∃x∈dy,x.2.1=wk n∧(x.1=0∨x.1=((if f=2∨mo≠[]then d else n-fst_ y+1)-1)/7+1∨x.1 = -(((if f=2∨mo≠[]then mlen y m else cum y 13)-(if f=2∨mo≠[]then d else n-fst_ y+1))/7+1)))) →
   (q↔(dy=[] ∨ ∃x∈dy,x.2.1=wk n∧(x.1=0∨x.1=((if f=2∨mo≠[]then d else n-fst_ y+1)-1)/7+1∨x.1 = -(((if f=2∨mo≠[]then mlen y m else cum y 13)-(if f=2∨mo≠[]then d else n-fst_ y+1))/7+1)))):=
  fun h=>h.trans ⟨.inr,fun q=>q.resolve_left hne⟩
 have mth:¬(f=1∧mo=[])→oC (jA.l1 n y d (mlen y m) false (f,iv,ct,un,wkst,en,mo,we,yd,md,dy,ho,mi,se,po,())) (dy=[] ∨ ∃x∈dy,x.2.1=wk n∧(x.1=0∨x.1=((if f=2∨mo≠[]then d else n-fst_ y+1)-1)/7+1∨x.1 = -(((if f=2∨mo≠[]then mlen y m else cum y 13)-(if f=2∨mo≠[]then d else n-fst_ y+1))/7+1))):=fun hc=>by
  rw[jA.l1_eq,cond_false];refine(go d (mlen y m) v3 v4 (by omega)).iff (conv ?_);by_cases cc:f=2∨mo≠[]
  ·rw[if_pos cc,if_pos cc]
  ·rw[if_neg cc,if_neg cc];have hf1:f≠1:=fun q=>hc ⟨q,Classical.byContradiction fun w=>cc (.inr w)⟩
   have hz:∀x∈dy,x.1=0:=fun x hx=>Classical.byContradiction fun w=>by
    rcases hnum x hx w with q | q
    ·exact cc (.inl q)
    ·exact hf1 q
   constructor
   ·rintro⟨x,hx,hx2,_⟩;exact⟨x,hx,hx2,.inl (hz x hx)⟩
   ·rintro⟨x,hx,hx2,_⟩;exact⟨x,hx,hx2,.inl (hz x hx)⟩
 by_cases c1:f=1
 ·by_cases c2:mo=[]
  ·have hlen0:(mo.length:Int)=0:=by rw[c2];rfl
   have hl:eG.f y=some (bL y,()):=uQ y (by omega)
   have hcum:cum y 13=if bL y=true then 366 else 365:=by
    have h3:(3:Int)≤13:=by omega
    unfold cum cumT
    cases bL y with
    | true=>simp
    | false=>simp
   have g:=go (n-fst_ y+1) (cum y 13) (by omega) (by omega) (by omega);rw[dp c1,cond_true,dp hlen0,jA.l1_eq,cond_true,cQ n y m d h e];simp only[hE2];rw[hl];simp only[hE2]
   have key:oC (bif bL y then(jA.l2 n (n-fst_ y+1) 366 (f,iv,ct,un,wkst,en,mo,we,yd,md,dy,ho,mi,se,po,()))else(jA.l2 n (n-fst_ y+1) 365 (f,iv,ct,un,wkst,en,mo,we,yd,md,dy,ho,mi,se,po,())))
     (∃x∈dy,x.2.1=wk n∧(x.1=0∨x.1=(n-fst_ y+1-1)/7+1∨x.1 = -((cum y 13-(n-fst_ y+1))/7+1))):=by
    rw[hcum]at g ⊢
    cases hlb:bL y with
    | true=>
     rw[hlb,if_pos rfl]at g;rw[cond_true,if_pos rfl];exact g
    | false=>
     rw[hlb,if_neg (by simp)]at g;rw[cond_false,if_neg (by simp)];exact g
   refine key.iff (conv ?_);rw[if_neg (show ¬(f=2∨mo≠[]) by rw[c1,c2];simp),if_neg (show ¬(f=2∨mo≠[]) by rw[c1,c2];simp)]
  ·have:=wF.1 c2;rw[dp c1,cond_true,dn (show ¬(mo.length:Int)=0 by omega)];exact mth fun q=>c2 q.2
 ·rw[dn c1,cond_false];exact mth fun q=>c1 q.1
theorem hZ1 (s n y m d y0 m0 d0:Int) (hs:eN mo we yd md dy ho mi se po) (hw:0≤wkst∧wkst≤6) (hf:1≤f) (hnum:∀x∈dy,x.1≠0→f=2∨f=1) (hS:inT s)
  (h0:iH (s/86400) y0 m0 d0) (e0:lB.f (s/86400)=some (y0,m0,d0,0,())) (h:iH n y m d) (e:lB.f n=some (y,m,d,0,())):
  oC (cA.f (f,iv,ct,un,wkst,en,mo,we,yd,md,dy,ho,mi,se,po,()) s n) (fitP f wkst mo we yd md dy m0 d0 (wk (s/86400)) n y m d):=by
 obtain⟨k1,k2,k3,k4,k5,k6,k7,k8,k9⟩:=hs;obtain⟨q1,q2,q3,q4,q5,q6⟩:=mF h;obtain⟨v1,v2,v3,v4⟩:=eC.1 h.1;have hy:=iJ y (by omega);have h13:=eD1 y;have hs13:=lH y v1;have hml:=qH y m;have hD:=(qF s (by unfold inT at hS;omega) (by unfold inT at hS;omega)).2;have hl:eG.f y=some (bL y,()):=uQ y (by omega)
 have hcum:cum y 13=if bL y=true then 366 else 365:=by
  have h3:(3:Int)≤13:=by omega
  unfold cum cumT
  cases bL y with
  | true=>simp
  | false=>simp
 have pos:∀{α:Type} {l:List α},decide ((l.length:Int)>0)=true→l≠[]:=fun {α l} q=>wF.2 (of_decide_eq_true q)
 have nil:∀{α:Type} {l:List α},decide ((l.length:Int)>0)=false→l=[]:=fun {α l} q=>Classical.byContradiction fun w=>absurd (wF.1 w) (of_decide_eq_false q)
 have l2t:cA.l2 n m d (s/86400) m0 d0 true (f,iv,ct,un,wkst,en,mo,we,yd,md,dy,ho,mi,se,po,())=some (false,()):=by rw[cA.l2_eq,cond_true]
 have tst:oC (cA.l2 n m d (s/86400) m0 d0 false (f,iv,ct,un,wkst,en,mo,we,yd,md,dy,ho,mi,se,po,())) (stP f mo we yd md dy m0 d0 (wk (s/86400)) n m d):=by
  rw[cA.l2_eq,cond_false,cA.l3_eq];unfold stP;dsimp only;by_cases c:yd≠[]∨md≠[]∨dy≠[]
  ·have hp:(yd.length:Int)+(md.length:Int)+(dy.length:Int)>0:=by rw[wF,wF,wF]at c;omega
   exact⟨true,by simp(disch:=omega)only[ss],by simp[c]⟩
  ·have hp:¬(yd.length:Int)+(md.length:Int)+(dy.length:Int)>0:=by rw[wF,wF,wF]at c;omega
   by_cases c1:we=[]
   ·subst c1;have hnil:(([]:List Int).length:Int)=0:=rfl;by_cases f1:f=1
    ·subst f1;by_cases dd:d=d0
     ·by_cases mm0:m=m0
      ·exact⟨true,by simp(disch:=omega)only[ss,hnil,cF,cA.l4_eq],by simp[dd,mm0]⟩
      ·refine⟨decide ((mo.length:Int)>0),by simp(disch:=omega)only[ss,hnil,cF,cA.l4_eq],?_⟩;rw[decide_eq_true_iff,←wF];simp[c,dd,mm0]
     ·exact⟨false,by simp(disch:=omega)only[ss,hnil,cF,cA.l4_eq],by simp[c,dd]⟩
    ·by_cases f2:f=2
     ·subst f2;refine⟨decide (d=d0),by simp(disch:=omega)only[ss,hnil,cF,cA.l4_eq],?_⟩;rw[decide_eq_true_iff];simp[c]
     ·by_cases f3:f=3
      ·subst f3;refine⟨decide (wk n=wk (s/86400)),by simp(disch:=omega)only[ss,hnil,cF,cA.l4_eq],?_⟩;rw[decide_eq_true_iff];simp[c]
      ·exact⟨true,by simp(disch:=omega)only[ss,hnil,cF,cA.l4_eq],by simp[f1,f2,f3]⟩
   ·have hwp:(we.length:Int)>0:=wF.1 c1;refine⟨decide (wk n=wk (s/86400)),by simp(disch:=omega)only[ss,cF,cA.l4_eq],?_⟩;rw[decide_eq_true_iff];simp[c,c1]
 have tdy:oC (bif decide ((dy.length:Int)>0)then((jA.f (f,iv,ct,un,wkst,en,mo,we,yd,md,dy,ho,mi,se,po,()) n).bind fun t11=>cA.l2 n m d (s/86400) m0 d0 (!t11.1) (f,iv,ct,un,wkst,en,mo,we,yd,md,dy,ho,mi,se,po,()))else(cA.l2 n m d (s/86400) m0 d0 false (f,iv,ct,un,wkst,en,mo,we,yd,md,dy,ho,mi,se,po,())))
   (wdP f mo dy n y m d∧stP f mo we yd md dy m0 d0 (wk (s/86400)) n m d):=by
  obtain⟨b,r1,r2⟩:=tst;by_cases cd:dy=[]
  ·rw[dn (show ¬(dy.length:Int)>0 by rw[cd];simp),cond_false];exact⟨b,r1,r2.trans ⟨fun q=>⟨.inl cd,q⟩,fun q=>q.2⟩⟩
  ·have:=wF.1 cd;obtain⟨b',g1,g2⟩:=yT1 f iv ct un wkst en mo we yd md dy ho mi se po n y m d ⟨k1,k5⟩ h e hf cd hnum;rw[dp this,cond_true,g1];simp only[hE2]
   cases b' with
   | false=>exact⟨false,l2t,⟨fun q=>(by cases q),fun q=>g2.2 q.1⟩⟩
   | true=>exact⟨b,r1,r2.trans ⟨fun q=>⟨g2.1 rfl,q⟩,fun q=>q.2⟩⟩
 have hz:∀L:Int,L=cum y 13→oC (cA.l1 n y m d (s/86400) m0 d0 (n-fst_ y+1) L (f,iv,ct,un,wkst,en,mo,we,yd,md,dy,ho,mi,se,po,())) (fitP f wkst mo we yd md dy m0 d0 (wk (s/86400)) n y m d):=fun L hL=>by
  subst hL;rw[cA.l1_eq];dsimp only;rw[mH y m (by omega)];simp only[hE2]
  refine oC.iff (zR1 l2t (p:=mo=[]∨m∈mo) (fun hc=>?_) (fun hc=>.inl (nil hc)) (zR1 l2t (p:=wkP wkst we n) (fun hc=>uL1 f iv ct un wkst en mo we yd md dy ho mi se po n (by omega) ⟨q5,q6⟩ hw (pos hc)) (fun hc=>.inl (nil hc))
   (zR1 l2t (p:=hasP yd (n-fst_ y+1) (cum y 13)) (fun hc=>(bF1 yd _ _ (by omega) (by omega) (by omega)).iff ⟨.inr,fun q=>q.resolve_left (pos hc)⟩) (fun hc=>.inl (nil hc))
   (zR1 l2t (p:=hasP md d (mlen y m)) (fun hc=>(bF1 md _ _ (by omega) (by omega) (by omega)).iff ⟨.inr,fun q=>q.resolve_left (pos hc)⟩) (fun hc=>.inl (nil hc)) tdy)))) ?_
  ·rw[yP mo m (by omega)];refine⟨_,rfl,?_⟩;rw[decide_eq_true_iff];exact⟨.inr,fun q=>q.resolve_left (pos hc)⟩
  ·unfold fitP;exact⟨fun⟨a1,a2,a3,a4,a5,a6⟩=>⟨a1,a3,a4,a5,a6,a2⟩,fun⟨a1,a3,a4,a5,a6,a2⟩=>⟨a1,a2,a3,a4,a5,a6⟩⟩
 rw[cA.f_eq,e,hD];simp only[hE2];rw[e0];simp only[hE2];rw[cQ n y m d h e];simp only[hE2];rw[hl];simp only[hE2]
 cases hlb:bL y with
 | true=>exact hz 366 (by rw[hcum,hlb,if_pos rfl])
 | false=>exact hz 365 (by rw[hcum,hlb,if_neg (by simp)])
theorem cN1 (s n:Int) (hs:eN mo we yd md dy ho mi se po) (hw:0≤wkst∧wkst≤6) (hf:1≤f) (hnum:∀x∈dy,x.1≠0→f=2∨f=1) (hS:inT s) (hn: -719162≤n∧n≤2932896):
  cA.f (f,iv,ct,un,wkst,en,mo,we,yd,md,dy,ho,mi,se,po,()) s n=some (tP f wkst mo we yd md dy s n,()):=by
 have hd:=uJ hS;obtain⟨y0,m0,d0,h0,_,e0⟩:=kJ (s/86400) hd.1 hd.2;obtain⟨y,m,d,h,_,e⟩:=kJ n hn.1 hn.2;obtain⟨b,h1,h2⟩:=hZ1 f iv ct un wkst en mo we yd md dy ho mi se po s n y m d y0 m0 d0 hs hw hf hnum hS h0 e0 h e;rw[h1];have:tP f wkst mo we yd md dy s n=b:=by
  unfold tP
  cases b with
  | true=>exact zY ⟨y0,m0,d0,y,m,d,h0,h,h2.1 rfl⟩
  | false=>
   refine wS fun⟨y0',m0',d0',y',m',d',g0,g,q⟩=>?_
   obtain⟨rfl,rfl,rfl⟩:=iN g0 h0;obtain⟨rfl,rfl,rfl⟩:=iN g h;exact absurd (h2.2 q) (by simp)
 rw[this]
end
structure RefOK (r:Rl) (s:Int) (F:Int→Bool) (pr:Int→Int) (h m c:List Int):Prop where
 right:∀t,inT t→sD.f r t=some (true,())
 times:bF.f r s=some (h,m,c,())
 num:∀t,inT t→oD.f r t=some (pr t,())
 fits:∀n,-719162≤n∧n≤2932896→cA.f r s n=some (F n,())
section
variable (f iv ct un wkst : Int) (en : Bool) (mo we yd md : List Int) (dy : List Dy) (ho mi se po : List Int)
theorem pB2 (s:Int) (hs:eN mo we yd md dy ho mi se po) (hM:tA.f (f,iv,ct,un,wkst,en,mo,we,yd,md,dy,ho,mi,se,po,())=some (true,())) (ht:inT s):
  RefOK (f,iv,ct,un,wkst,en,mo,we,yd,md,dy,ho,mi,se,po,()) s (tP f wkst mo we yd md dy s) (per f wkst we) (tX f ho s) (oJ1 f mi s) (qJ1 f se s):=by
 have hp:=tY1 (r:=(f,iv,ct,un,wkst,en,mo,we,yd,md,dy,ho,mi,se,po,())) hs hM;dsimp only at hp;obtain⟨⟨⟨f1,f2,_,_,_,_,w1_,w2_⟩,_,_⟩,⟨_,_,_,_,_,_,_,_,hdwi⟩,_⟩:=hp;have hV:bA.f (f,iv,ct,un,wkst,en,mo,we,yd,md,dy,ho,mi,se,po,())=some (true,()):=by rw[←gO _ hs];exact hM
 have hr:∀t,inT t→sD.f (f,iv,ct,un,wkst,en,mo,we,yd,md,dy,ho,mi,se,po,()) t=some (true,()):=fun t h=>by rw[sD.f_eq,hV,(oH t).2,dp h];rfl
 have hs':=hs;obtain⟨k1,k2,k3,k4,k5,k6,k7,k8,k9⟩:=hs';refine⟨hr,?_,fun t h=>?_,fun n hn=>cN1 f iv ct un wkst en mo we yd md dy ho mi se po s n hs ⟨w1_,w2_⟩ f1 (fun x hx h0=>?_) ht hn⟩
 ·have hD:=(qF s (by unfold inT at ht;omega) (by unfold inT at ht;omega)).2;have hb:0≤s%86400∧s%86400≤86399:=by omega
  have t1:w6 (Int.tdiv (s%86400) 3600)=s%86400/3600:=by rw[tdn hb.1,wr (by omega) (by omega)]
  have t2:Int.tmod (w6 (Int.tdiv (s%86400) 60)) 60=s%86400/60%60:=by rw[tdn hb.1,wr (by omega) (by omega),tmn (by omega)]
  have t3:Int.tmod (s%86400) 60=s%86400%60:=tmn hb.1 _;have a1:=(jK ho (decide (f≤4)) (s%86400/3600) 24 (by omega) (by omega)).2;have a2:=(jK mi (decide (f≤5)) (s%86400/60%60) 60 (by omega) (by omega)).2;have a3:=(jK se (decide (f≤6)) (s%86400%60) 60 (by omega) (by omega)).2;rw[show((24:Nat):Int)=24 from rfl]at a1;rw[show((60:Nat):Int)=60 from rfl]at a2 a3;rw[bF.f_eq,hr s ht,hD];simp(disch:=omega)only[ss,t1,t2,t3,a1,a2,a3];rfl
 ·obtain⟨k,h1,_,_,h4⟩:=nH1 f iv ct un wkst en mo we yd md dy ho mi se po t h ⟨f1,f2⟩ ⟨w1_,w2_⟩ (by omega);rw[h4,bV1 h1]
 ·obtain⟨j,hj,e⟩:=oG2 hx;have e2:gD dy j=x:=by unfold gD;rw[oE2,sE2 hj,e];rfl
  have:=hdwi.2 j hj;unfold numd at this;rw[e2]at this;rcases this h0 with q | q
  ·exact .inl q
  ·exact .inr q.1
end
section
variable {P : PlT} {r : Rl} {s : Int} {F : Int → Bool} {pr : Int → Int} {h m c : List Int} (hP : PlanOK P r s F pr h m c) (hV : RefOK r s F pr h m c)
include hP hV
theorem vQ1 (t:Int) (ht:inT t):pF.f r s t=some (decide (inP r.2.1 s pr t),()):=by have hiv:=hP.iv;have b1:=hP.bd t ht;have b2:=hP.bd s hP.inS;rw[pF.f_eq,hV.num t ht,hV.num s hP.inS];simp(disch:=omega)only[ss]
theorem tI1 (n x y:Int) (hf:r.1≤4) (hx:inT x) (hy:inT y) (h1:x/86400=n) (h2:y/86400=n):pr x=pr y:=by have _:=hV;obtain⟨A,B,_,g2,g3,_⟩:=hP.days y hy;exact(g3 hf x hx).2 ⟨by omega,by omega⟩
theorem mU1 (n a b x:Int) (hn: -719162≤n∧n≤2932896) (ha:0≤a∧a≤23) (hb:0≤b∧b≤59) (hx:0≤x∧x≤59) (hf:r.1≤6):pr (n*86400+3600*a+60*b+x)=pr (n*86400+3600*a+60*b):=by
 have h1:inT (n*86400+3600*a+60*b+x):=by unfold inT;omega
 have h2:inT (n*86400+3600*a+60*b):=by unfold inT;omega
 by_cases c4:r.1≤4
 ·exact tI1 hP hV n _ _ c4 h1 h2 (by omega) (by omega)
 ·by_cases c5:r.1=5
  ·rw[hP.p5 c5 _ h1,hP.p5 c5 _ h2];omega
  ·have c6:r.1=6:=by omega
   rw[hP.p6 c6 _ h1,hP.p6 c6 _ h2];omega
def XL (iv s:Int) (pr:Int→Int) (n a b:Int) (c:List Int):List Int:=(c.map fun x=>n*86400+3600*a+60*b+x).filter fun t=>decide (inP iv s pr t)
omit hP hV in
theorem vV1 (iv s:Int) (pr:Int→Int) (n a b:Int) (c:List Int):(XL iv s pr n a b c).length≤c.length:=by unfold XL;exact sG2 (List.length_filter_le _ _) (by rw[gG2];exact rE2 _)
theorem oC2 (n M:Int) (hn: -719162≤n∧n≤2932896) (hM:86400≤M∧M≤1000000) (i j:Nat) (hi:i<h.length) (hj:j<m.length) (hi24:i<24) (hj60:j<60):∀(q k:Nat),c.length-k=q→k≤c.length → ∀acc:List Int,acc.length≤(i*60+j)*60+k →
  iA.l7 s n M h m c (i:Int) (j:Int) (k:Int) r acc=iA.l4 s n M h m c (i:Int) ((j:Int)+1) r (acc++XL r.2.1 s pr n (h.getD i 0) (m.getD j 0) (c.drop k)):=by
 have hlim:eD=17179869184:=rfl;have ha:=hP.oh.2.1 _ (yG hi);have hb:=hP.om.2.1 _ (yG hj);have lc:=hP.oc.2.2;have lh:=hP.oh.2.2;have lm:=hP.om.2.2;intro q
 induction q with
 | zero=>
  intro k hk hkc acc hacc;have e:k=c.length:=by omega
  subst e;rw[iA.l7_eq,jF2];simp(disch:=omega)only[ss];unfold XL;rw[List.map_nil,xH2,zE2]
 | succ q ih=>
  intro k hk hkc acc hacc;have hlt:k<c.length:=by omega
  have hx:=hP.oc.2.1 _ (yG hlt);rw[iA.l7_eq,nF2,nF2,nF2,iB 0 hlt];generalize h.getD i 0=a at ha ih ⊢;generalize m.getD j 0=b at hb ih ⊢;generalize c.getD k 0=x at hx ⊢;have w1_:w6 (n*86400)=n*86400:=wr (by omega) (by omega);have w2_:w6 ((3600:Int)*a)=3600*a:=wr (by omega) (by omega);have w3_:w6 ((60:Int)*b)=60*b:=wr (by omega) (by omega);have w4_:w6 (n*86400+3600*a)=n*86400+3600*a:=wr (by omega) (by omega);have w5_:w6 (n*86400+3600*a+60*b)=n*86400+3600*a+60*b:=wr (by omega) (by omega);have w6_:w6 (n*86400+3600*a+60*b+x)=n*86400+3600*a+60*b+x:=wr (by omega) (by omega);have hT:=vQ1 hP hV (n*86400+3600*a+60*b+x) (by unfold inT;omega);rw[w1_,w2_,w3_,w4_,w5_,w6_,hT];have ih1:=fun acc hacc=>ih (k+1) (by omega) (by omega) acc hacc
  rw[gF2,hF2]at ih1
  have hXL:XL r.2.1 s pr n a b (x::c.drop (k+1))=if inP r.2.1 s pr (n*86400+3600*a+60*b+x)then(n*86400+3600*a+60*b+x)::XL r.2.1 s pr n a b (c.drop (k+1))else XL r.2.1 s pr n a b (c.drop (k+1)):=by
   unfold XL;rw[qF2,bH2];by_cases cc:inP r.2.1 s pr (n*86400+3600*a+60*b+x)
   ·rw[dp cc,if_pos rfl,if_pos cc]
   ·rw[dn cc,if_neg (by simp),if_neg cc]
  rw[hXL];by_cases cc:inP r.2.1 s pr (n*86400+3600*a+60*b+x)
  ·have:=ih1 (acc++[n*86400+3600*a+60*b+x]) (by rw[nG];omega);have hl1:(acc++[n*86400+3600*a+60*b+x]).length=acc.length+1:=nG _ _;rw[if_pos cc,dp cc];simp(disch:=omega)only[ss,vE2,hlim,iA.l8_eq,hl1];rw[this,uE2];rfl
  ·have:=ih1 acc (by omega);rw[if_neg cc,dn cc];simp(disch:=omega)only[ss,iA.l8_eq];exact this
theorem aC2 (n M:Int) (hn: -719162≤n∧n≤2932896) (hM:86400≤M∧M≤1000000) (i:Nat) (hi:i<h.length) (hi24:i<24):∀(q j:Nat),m.length-j=q→j≤m.length → ∀acc:List Int,acc.length≤(i*60+j)*60 →
  iA.l4 s n M h m c (i:Int) (j:Int) r acc=iA.l3 s n M h m c ((i:Int)+1) r (acc++(m.drop j).flatMap fun b=>XL r.2.1 s pr n (h.getD i 0) b c):=by
 have ha:=hP.oh.2.1 _ (yG hi);have lc:=hP.oc.2.2;have lh:=hP.oh.2.2;have lm:=hP.om.2.2;intro q
 induction q with
 | zero=>
  intro j hj hjm acc hacc;have e:j=m.length:=by omega
  subst e;rw[iA.l4_eq,jF2];simp(disch:=omega)only[ss];rw[List.flatMap_nil,zE2]
 | succ q ih=>
  intro j hj hjm acc hacc;have hlt:j<m.length:=by omega
  have hb:=hP.om.2.1 _ (yG hlt);have ih1:=fun acc hacc=>ih (j+1) (by omega) (by omega) acc hacc
  rw[gF2,hF2]at ih1;have h7:=oC2 hP hV n M hn hM i j hi hlt hi24 (by omega) c.length 0 (by omega) (kE2 _) acc (by omega);rw[qE2,yE2]at h7
  have go:iA.l5 s n M h m c (i:Int) (j:Int) false r acc=iA.l3 s n M h m c ((i:Int)+1) r (acc++(m.drop j).flatMap fun b=>XL r.2.1 s pr n (h.getD i 0) b c):=by have hl:=vV1 r.2.1 s pr n (h.getD i 0) (m.getD j 0) c;rw[iA.l5_eq,cond_false,iA.l6_eq,h7,ih1 _ (by rw[jE2];omega),iB 0 hlt,mG2,uE2]
  rw[iA.l4_eq];by_cases c6:r.1≤6
  ·have hms:=mU1 hP hV n (h.getD i 0) (m.getD j 0);rw[nF2,nF2]
   have hXn:¬inP r.2.1 s pr (n*86400+3600*(h.getD i 0)+60*(m.getD j 0))→XL r.2.1 s pr n (h.getD i 0) (m.getD j 0) c=[]:=fun hno=>by unfold XL;rw[List.filter_eq_nil_iff];intro t ht;obtain⟨x,hx,rfl⟩:=kF2.1 ht;have hx2:=hP.oc.2.1 x hx;have e:=hms x hn ha hb hx2 c6;rw[decide_eq_true_eq];unfold inP at hno ⊢;rw[e];exact hno
   generalize hA:h.getD i 0=a at ha hXn go h7 ⊢;generalize hB:m.getD j 0=b at hb hXn h7 ⊢;have w1_:w6 (n*86400)=n*86400:=wr (by omega) (by omega);have w2_:w6 ((3600:Int)*a)=3600*a:=wr (by omega) (by omega);have w3_:w6 ((60:Int)*b)=60*b:=wr (by omega) (by omega);have w4_:w6 (n*86400+3600*a)=n*86400+3600*a:=wr (by omega) (by omega);have w5_:w6 (n*86400+3600*a+60*b)=n*86400+3600*a+60*b:=wr (by omega) (by omega);have hT:=vQ1 hP hV (n*86400+3600*a+60*b) (by unfold inT;omega);rw[w1_,w2_,w3_,w4_,w5_,hT];by_cases cc:inP r.2.1 s pr (n*86400+3600*a+60*b)
   ·rw[dp cc];simp(disch:=omega)only[ss];exact go
   ·rw[dn cc];simp(disch:=omega)only[ss,iA.l5_eq];rw[iB 0 hlt,mG2,hB,hXn cc,dF2];rw[hA]at ih1;exact ih1 acc (by omega)
  ·simp(disch:=omega)only[ss];exact go
theorem gC2 (n M:Int) (hn: -719162≤n∧n≤2932896) (hM:86400≤M∧M≤1000000) (h24:h.length≤24):∀(q i:Nat),h.length-i=q→i≤h.length → ∀acc:List Int,acc.length≤i*60*60 →
  iA.l3 s n M h m c (i:Int) r acc=some (acc++(h.drop i).flatMap fun a=>m.flatMap fun b=>XL r.2.1 s pr n a b c,()):=by
 have lc:=hP.oc.2.2;have lm:=hP.om.2.2;intro q
 induction q with
 | zero=>
  intro i hi hih acc hacc;have e:i=h.length:=by omega
  subst e;rw[iA.l3_eq,jF2];simp(disch:=omega)only[ss];rw[List.flatMap_nil,zE2]
 | succ q ih=>
  intro i hi hih acc hacc;have hlt:i<h.length:=by omega
  have h4:=aC2 hP hV n M hn hM i hlt (by omega) m.length 0 (by omega) (kE2 _) acc (by omega);rw[qE2,yE2]at h4
  have hb:((m.flatMap fun b=>XL r.2.1 s pr n (h.getD i 0) b c)).length≤m.length*60:=by
   have:∀l:List Int,(l.flatMap fun b=>XL r.2.1 s pr n (h.getD i 0) b c).length≤l.length*60:=fun l=>by
    induction l with
    | nil=>exact rE2 _
    | cons b l ihl=>
     have:=vV1 r.2.1 s pr n (h.getD i 0) b c;rw[mG2,jE2,iF2];omega
   exact this m
  have ih1:=ih (i+1) (by omega) (by omega) (acc++m.flatMap fun b=>XL r.2.1 s pr n (h.getD i 0) b c) (by rw[jE2];omega);rw[gF2,hF2]at ih1;rw[iA.l3_eq];simp(disch:=omega)only[ss];rw[h4,ih1,iB 0 hlt,mG2,uE2]
theorem dQ1 (n M:Int) (hn: -719162≤n∧n≤2932896) (hM:86400≤M∧M≤1000000):iA.f r s n M=some (memL (rawP r.2.1 s F pr h m c) (n*86400) (n*86400+86400),()):=by
 have h24:h.length≤24:=by have:=gL hP.oh.1 (a:=0) (b:=23) hP.oh.2.1;omega
 have l1t:iA.l1 s n M true r []=some ([],()):=by rw[iA.l1_eq,cond_true]
 have hin:∀x,n*86400≤x→x<n*86400+86400→x/86400=n:=fun x h1 h2=>by omega
 have none_of:(∀x,n*86400≤x→x<n*86400+86400 → ¬rawP r.2.1 s F pr h m c x)→(some (([]:List Int),()):Option (List Int×Unit))=some (memL (rawP r.2.1 s F pr h m c) (n*86400) (n*86400+86400),()):=fun q=>by rw[gD1 _ q]
 have full:F n=true→iA.l1 s n M false r []=some (memL (rawP r.2.1 s F pr h m c) (n*86400) (n*86400+86400),()):=fun hF=>by
  have h3:=gC2 hP hV n M hn hM h24 h.length 0 (by omega) (kE2 _) [] (kE2 _);rw[qE2,yE2,dF2]at h3;rw[iA.l1_eq,cond_false,iA.l2_eq,hV.times];simp only[hE2];rw[h3]
  have e:(h.flatMap fun a=>m.flatMap fun b=>XL r.2.1 s pr n a b c)=((tod h m c).map fun x=>n*86400+x).filter fun t=>decide (inP r.2.1 s pr t):=by
   unfold tod XL;rw[List.map_flatMap,List.filter_flatMap]
   congr 1
   funext a
   rw[List.map_flatMap,List.filter_flatMap]
   congr 1
   funext b
   rw[List.map_map]
   congr 1
   refine oH2 fun x _=>?_
   simp only[Function.comp];omega
  rw[e,pN (rawP r.2.1 s F pr h m c) (a:=n*86400) (b:=n*86400+86400) (List.Pairwise.sublist qH2 (kT (uI1 hP.oh.1 hP.om.1 hP.oc.1 hP.om.2.1 hP.oc.2.1) (fun x=>n*86400+x) fun x y q=>by omega)) fun x=>?_];rw[zF2,kF2,decide_eq_true_eq];unfold rawP;constructor
  ·rintro⟨⟨y,hy,rfl⟩,h2⟩;have hb:=gV1 hP.oh.2.1 hP.om.2.1 hP.oc.2.1 y hy;have e1:(n*86400+y)%86400=y:=by omega
   have e2:(n*86400+y)/86400=n:=by omega
   rw[e1,e2];exact⟨⟨by unfold inT;omega,hy,h2,hF⟩,by omega,by omega⟩
  ·rintro⟨⟨h1,h2,h3,h4⟩,h5,h6⟩;exact⟨⟨x%86400,h2,by omega⟩,h3⟩
 rw[iA.f_eq,hV.fits n hn];simp only[hE2]
 cases hF:F n with
 | false=>
  rw[eF2,cond_true,l1t];refine none_of fun x h1 h2 q=>?_
  have:=q.2.2.2;rw[hin x h1 h2,hF]at this;cases this
 | true=>
  rw[lE2,cond_false];by_cases c4:r.1≤4
  ·have hT:=vQ1 hP hV (n*86400) (by unfold inT;omega);rw[dp c4,cond_true,wr (by omega) (by omega),hT];simp only[hE2];by_cases cc:inP r.2.1 s pr (n*86400)
   ·rw[dp cc,lE2];exact full hF
   ·rw[dn cc,eF2,l1t];refine none_of fun x h1 h2 q=>cc ?_
    have e:=tI1 hP hV n (n*86400) x c4 (by unfold inT;omega) q.1 (by omega) (hin x h1 h2);have:=q.2.2.1;unfold inP at this ⊢;rw[e];exact this
  ·rw[dn c4,cond_false];exact full hF
theorem sX1 (t A B:Int) (ht:inT t) (hf:r.1≤4) (g2:A≤t/86400∧t/86400≤B ∧ -719162≤A∧B≤2932896) (g3:∀x,inT x→(pr x=pr t↔A≤x/86400∧x/86400≤B)):∀(k:Nat) (a:Int),a-A=k→a≤t/86400 →
  xA.l1 a (t/86400) (pr t) r=xA.l3 A (t/86400) (pr t) r:=by
 have _:=hP;have _:=hf;have hd:=uJ ht;intro k
 induction k with
 | zero=>
  intro a ha hat;have e:a=A:=by omega
  subst e;rw[xA.l1_eq,wr (show _≤a-1 by omega) (by omega),wr (by omega) (by omega),(oH ((a-1)*86400)).2];by_cases c1: -719162≤a-1
  ·have hi:inT ((a-1)*86400):=by unfold inT;omega
   have hne:¬pr ((a-1)*86400)=pr t:=fun q=>by have:=(g3 _ hi).1 q;omega
   rw[dp (show -62135596800≤(a-1)*86400∧(a-1)*86400≤253402300799 from hi),hV.num _ hi];simp(disch:=omega)only[ss,xA.l2_eq]
  ·rw[dn (show ¬(-62135596800≤(a-1)*86400∧(a-1)*86400≤253402300799) by omega)];simp(disch:=omega)only[ss,xA.l2_eq]
 | succ k ih=>
  intro a ha hat;have hi:inT ((a-1)*86400):=by unfold inT;omega
  have he:pr ((a-1)*86400)=pr t:=(g3 _ hi).2 (by omega);rw[xA.l1_eq,wr (show _≤a-1 by omega) (by omega),wr (by omega) (by omega),(oH ((a-1)*86400)).2,dp (show -62135596800≤(a-1)*86400∧(a-1)*86400≤253402300799 from hi),hV.num _ hi];simp(disch:=omega)only[ss,xA.l2_eq];exact ih (a-1) (by omega) (by omega)
theorem rY1 (t A B:Int) (ht:inT t) (g2:A≤t/86400∧t/86400≤B ∧ -719162≤A∧B≤2932896) (g3:∀x,inT x→(pr x=pr t↔A≤x/86400∧x/86400≤B)):∀(k:Nat) (b:Int),B-b=k→t/86400≤b →
  xA.l4 A b (pr t) r=some (A,B,()):=by
 have _:=hP;have hd:=uJ ht;intro k
 induction k with
 | zero=>
  intro b hb hbt;have e:b=B:=by omega
  subst e;rw[xA.l4_eq,wr (show _≤b+1 by omega) (by omega),wr (by omega) (by omega),(oH ((b+1)*86400)).2];by_cases c1:b+1≤2932896
  ·have hi:inT ((b+1)*86400):=by unfold inT;omega
   have hne:¬pr ((b+1)*86400)=pr t:=fun q=>by have:=(g3 _ hi).1 q;omega
   rw[dp (show -62135596800≤(b+1)*86400∧(b+1)*86400≤253402300799 from hi),hV.num _ hi];simp(disch:=omega)only[ss,xA.l5_eq]
  ·rw[dn (show ¬(-62135596800≤(b+1)*86400∧(b+1)*86400≤253402300799) by omega)];simp(disch:=omega)only[ss,xA.l5_eq]
 | succ k ih=>
  intro b hb hbt;have hi:inT ((b+1)*86400):=by unfold inT;omega
  have he:pr ((b+1)*86400)=pr t:=(g3 _ hi).2 (by omega);rw[xA.l4_eq,wr (show _≤b+1 by omega) (by omega),wr (by omega) (by omega),(oH ((b+1)*86400)).2,dp (show -62135596800≤(b+1)*86400∧(b+1)*86400≤253402300799 from hi),hV.num _ hi];simp(disch:=omega)only[ss,xA.l5_eq];exact ih (b+1) (by omega) (by omega)
theorem cP1 (t:Int) (ht:inT t):∃A B,xA.f r t=some (A,B,())∧(A≤t/86400∧t/86400≤B ∧ -719162≤A∧B≤2932896) ∧ ∀x,inT x→pr x=pr t→A≤x/86400∧x/86400≤B:=by
 obtain⟨A,B,_,g2,g3,g4⟩:=hP.days t ht;have hD:=(qF t (by unfold inT at ht;omega) (by unfold inT at ht;omega)).2;refine⟨A,B,?_,g2,?_⟩
 ·rw[xA.f_eq,hV.right t ht,hD];by_cases c4:r.1≤4
  ·have a1:=sX1 hP hV t A B ht c4 g2 (g3 c4) (t/86400-A).toNat (t/86400) (by omega) (vF2 _);have a2:=rY1 hP hV t A B ht g2 (g3 c4) (B-t/86400).toNat (t/86400) (by omega) (vF2 _);have hN:=hV.num t ht;simp(disch:=omega)only[ss,hN,a1,xA.l3_eq,a2]
  ·obtain⟨e1,e2⟩:=g4 (by omega);simp(disch:=omega)only[ss,e1,e2]
 ·intro x hx he;by_cases c4:r.1≤4
  ·exact(g3 c4 x hx).1 he
  ·obtain⟨e1,e2⟩:=g4 (by omega);have hfr:=hP.fr;by_cases c5:r.1=5
   ·rw[hP.p5 c5 x hx,hP.p5 c5 t ht]at he;omega
   ·by_cases c6:r.1=6
    ·rw[hP.p6 c6 x hx,hP.p6 c6 t ht]at he;omega
    ·have c7:r.1=7:=by omega
     rw[hP.p7 c7 x hx,hP.p7 c7 t ht]at he;omega
theorem uA2 (t:Int) (ht:inT t) (n B:Int) (hn: -719162≤n∧n≤2932896) (l:List Int) (hl:l.length≤86400) (hT:∀x∈l,inT x):∀(q k:Nat),l.length-k=q→k≤l.length → ∀acc:List Int,acc.length≤100000+k →
  tB.l3 s t 100000 B n l (k:Int) r acc=(bif decide (((acc++(l.drop k).filter fun x=>decide (pr x=pr t)).length:Int)>100000)then some ([],10,())else tB.l2 s t 100000 B (n+1) r (acc++(l.drop k).filter fun x=>decide (pr x=pr t))):=by
 have hlim:eD=17179869184:=rfl;have _:=hP;intro q
 induction q with
 | zero=>
  intro k hk hkl acc hacc;have e:k=l.length:=by omega
  subst e;rw[tB.l3_eq,jF2,xH2,zE2];simp(disch:=omega)only[ss]
 | succ q ih=>
  intro k hk hkl acc hacc;have hlt:k<l.length:=by omega
  have hx:=hT _ (yG hlt);have ih1:=fun acc hacc=>ih (k+1) (by omega) (by omega) acc hacc
  rw[gF2,hF2]at ih1;rw[tB.l3_eq,nF2,iB 0 hlt,bH2];generalize l.getD k 0=x at hx ⊢;rw[hV.num x hx,hV.num t ht];by_cases cc:pr x=pr t
  ·have:=ih1 (acc++[x]) (by rw[nG];omega);rw[dp cc,if_pos rfl];simp(disch:=omega)only[ss,vE2,hlim];rw[this,uE2];rfl
  ·rw[dn cc,if_neg (by simp)];simp(disch:=omega)only[ss];exact ih1 acc (by omega)
theorem bB2 (t:Int) (ht:inT t) (B:Int) (hB:B≤2932896):∀(q:Nat) (n:Int),(B+1-n).toNat=q → -719162≤n→n≤B+1 → ∀acc:List Int,acc.length≤100000 →
  ∃cd,tB.l2 s t 100000 B n r acc=some (if(acc++memL (fun x=>rawP r.2.1 s F pr h m c x∧pr x=pr t) (n*86400) ((B+1)*86400)).length>100000 then []else acc++memL (fun x=>rawP r.2.1 s F pr h m c x∧pr x=pr t) (n*86400) ((B+1)*86400),cd,()):=by
 intro q
 induction q with
 | zero=>
  intro n hq hn1 hn2 acc hacc;have e:n=B+1:=by omega
  subst e;rw[lP _ (vF2 _),zE2,if_neg (by omega),tB.l2_eq,dn (show ¬B+1≤B by omega),cond_false];exact⟨0,rfl⟩
 | succ q ih=>
  intro n hq hn1 hn2 acc hacc;have hO:=dQ1 hP hV n 100000 ⟨hn1,by omega⟩ (by omega);have hR:=pG (rawP r.2.1 s F pr h m c) (n*86400) (n*86400+86400);have hm:=fun x=>kG (rawP r.2.1 s F pr h m c) (a:=n*86400) (b:=n*86400+86400) (x:=x)
  have hX:((memL (rawP r.2.1 s F pr h m c) (n*86400) (n*86400+86400)).filter fun x=>decide (pr x=pr t))=memL (fun x=>rawP r.2.1 s F pr h m c x∧pr x=pr t) (n*86400) ((n+1)*86400):=
   pN _ (List.Pairwise.sublist qH2 hR) fun x=>by
    rw[zF2,hm,decide_eq_true_eq];constructor
    ·rintro⟨⟨q1,q2,q3⟩,q4⟩;exact⟨⟨q1,q4⟩,q2,by omega⟩
    ·rintro⟨⟨q1,q4⟩,q2,q3⟩;exact⟨⟨q1,q2,by omega⟩,q4⟩
  have hsp:=hL1 (fun x=>rawP r.2.1 s F pr h m c x∧pr x=pr t) (a:=n*86400) (b:=(n+1)*86400) (c:=(B+1)*86400) (by omega) (by omega);have hlen:(memL (rawP r.2.1 s F pr h m c) (n*86400) (n*86400+86400)).length≤86400:=by
   have:=gL hR (a:=n*86400) (b:=n*86400+86399) fun x hx=>by have:=(hm x).1 hx;omega
   omega
  have h3:=uA2 hP hV t ht n B ⟨hn1,by omega⟩ _ hlen (fun x hx=>((hm x).1 hx).1.1) _ 0 rfl (kE2 _) acc (by omega);rw[qE2,yE2,hX]at h3;rw[tB.l2_eq,dp (show n≤B by omega),cond_true,hO];simp only[hE2];rw[h3,←hsp];by_cases cc:(acc++memL (fun x=>rawP r.2.1 s F pr h m c x∧pr x=pr t) (n*86400) ((n+1)*86400)).length>100000
  ·rw[dp (show((acc++memL (fun x=>rawP r.2.1 s F pr h m c x∧pr x=pr t) (n*86400) ((n+1)*86400)).length:Int)>100000 by omega),cond_true,if_pos]
   ·exact⟨10,rfl⟩
   ·rw[←uE2,jE2];omega
  ·rw[dn (show ¬((acc++memL (fun x=>rawP r.2.1 s F pr h m c x∧pr x=pr t) (n*86400) ((n+1)*86400)).length:Int)>100000 by omega),cond_false];obtain⟨cd,hcd⟩:=ih (n+1) (by omega) (by omega) (by omega) (acc++memL (fun x=>rawP r.2.1 s F pr h m c x∧pr x=pr t) (n*86400) ((n+1)*86400)) (by omega);rw[uE2]at hcd;exact⟨cd,hcd⟩
theorem fU1 (t:Int) (ht:inT t):∃G:List Int,Rise G∧(∀x,x∈G↔rawP r.2.1 s F pr h m c x∧pr x=pr t) ∧ ∃cd,tB.f r s t 100000=some (if G.length>100000 then []else G,cd,()):=by
 obtain⟨A,B,g1,g2,g3⟩:=cP1 hP hV t ht;have hin:=hP.inS;obtain⟨cd,h2⟩:=bB2 hP hV t ht B g2.2.2.2 (B+1-A).toNat A rfl g2.2.2.1 (by omega) [] (kE2 _);rw[dF2]at h2;refine⟨memL (fun x=>rawP r.2.1 s F pr h m c x∧pr x=pr t) (A*86400) ((B+1)*86400),pG _ _ _,fun x=>?_,cd,?_⟩
 ·rw[kG];refine⟨fun q=>q.1,fun q=>⟨q,?_⟩⟩;have:=g3 x q.1.1 q.2;omega
 ·rw[tB.f_eq,hV.right s hin,(oH t).2,dp (show -62135596800≤t∧t≤253402300799 from ht)];simp(disch:=omega)only[ss,tB.l1_eq,g1];exact h2
theorem eR1 (l:List Int) (t:Int) (hr:Rise l) (hl:l.length≤1000000):jD.f r l t=some (ind (∃i:Nat,i<l.length∧l.getD i 0=t∧((i:Int)+1∈r.2.2.2.2.2.2.2.2.2.2.2.2.2.2.1∨(i:Int)-(l.length:Int)∈r.2.2.2.2.2.2.2.2.2.2.2.2.2.2.1)),()):=by
 have _:=hV;have lp:=hP.lp;have key:∀(q i:Nat),l.length-i=q→i≤l.length→(∀j,j<i → ¬l.getD j 0=t)→jD.l1 l t (i:Int) r=some (ind (∃i:Nat,i<l.length∧l.getD i 0=t∧((i:Int)+1∈r.2.2.2.2.2.2.2.2.2.2.2.2.2.2.1∨(i:Int)-(l.length:Int)∈r.2.2.2.2.2.2.2.2.2.2.2.2.2.2.1)),()):=by
  intro q
  induction q with
  | zero=>
   intro i hq hi hno;have e:i=l.length:=by omega
   subst e;rw[jD.l1_eq];simp(disch:=omega)only[ss];rw[wS];rintro⟨j,h1,h2,_⟩;exact hno j h1 h2
  | succ q ih=>
   intro i hq hi hno;have hlt:i<l.length:=by omega
   rw[jD.l1_eq,nF2];by_cases ce:l.getD i 0=t
   ·rw[dp ce,yP _ _ (by omega)];by_cases c1:(i:Int)+1∈r.2.2.2.2.2.2.2.2.2.2.2.2.2.2.1
    ·rw[zY ⟨i,hlt,ce,.inl c1⟩];simp(disch:=omega)only[ss,dp c1]
    ·have w1_:w6 ((i:Int)-(l.length:Int))=(i:Int)-(l.length:Int):=wr (by omega) (by omega);have hs2:=yP r.2.2.2.2.2.2.2.2.2.2.2.2.2.2.1 ((i:Int)-(l.length:Int)) (by omega);by_cases c2:(i:Int)-(l.length:Int)∈r.2.2.2.2.2.2.2.2.2.2.2.2.2.2.1
     ·rw[zY ⟨i,hlt,ce,.inr c2⟩];simp(disch:=omega)only[ss,dn c1,w1_,hs2,dp c2]
     ·rw[wS]
      ·simp(disch:=omega)only[ss,dn c1,w1_,hs2,dn c2]
      ·rintro⟨j,h1,h2,h3⟩;have e:i=j:=bJ1 hr hlt h1 (by rw[ce,h2]);subst e;rcases h3 with h3 | h3
       ·exact c1 h3
       ·exact c2 h3
   ·have ih1:=ih (i+1) (by omega) (by omega) fun j hj=>by
     by_cases e:j=i
     ·subst e;exact ce
     ·exact hno j (by omega)
    rw[gF2,hF2]at ih1;rw[dn ce];simp(disch:=omega)only[ss];exact ih1
 have:=key l.length 0 (by omega) (kE2 _) fun j hj=>by omega
 rw[qE2]at this;rw[jD.f_eq];exact this
theorem iW (t:Int) (ht:inT t):∃S:List Int,(∃cd,tB.f r s t 100000=some (S,cd,())) ∧ ∀u,inT u→pr u=pr t→jD.f r S u=some (ind (∃G:List Int,Rise G∧(∀x,x∈G↔rawP r.2.1 s F pr h m c x∧pr x=pr u)∧rC1 r.2.2.2.2.2.2.2.2.2.2.2.2.2.2.1 (G.take 100001) u),()):=by
 obtain⟨G,g1,g2,cd,g3⟩:=fU1 hP hV t ht;refine⟨_,⟨cd,g3⟩,fun u hu he=>?_⟩;have uniq:∀G':List Int,Rise G'→(∀x,x∈G'↔rawP r.2.1 s F pr h m c x∧pr x=pr u)→G'=G:=fun G' q1 q2=>kL q1 g1 fun x=>by rw[q2,g2,he]
 by_cases cl:G.length>100000
 ·rw[if_pos cl,eR1 hP hV [] u lG (kE2 _),wS,wS]
  ·rintro⟨G',q1,q2,q3,_⟩;rw[uniq G' q1 q2,fF2]at q3;omega
  ·rintro⟨i,q,_⟩;exact absurd q (by simp)
 ·rw[if_neg cl,eR1 hP hV G u g1 (by omega)];by_cases cc:∃i:Nat,i<G.length∧G.getD i 0=u∧((i:Int)+1∈r.2.2.2.2.2.2.2.2.2.2.2.2.2.2.1∨(i:Int)-(G.length:Int)∈r.2.2.2.2.2.2.2.2.2.2.2.2.2.2.1)
  ·rw[zY cc,zY];refine⟨G,g1,fun x=>by rw[g2,he],?_⟩;rw[cF2 (by omega)];exact⟨by omega,cc⟩
  ·rw[wS cc,wS];rintro⟨G',q1,q2,q3⟩;rw[uniq G' q1 q2,cF2 (by omega)]at q3;exact cc q3.2
end
def wkR (ct after most:Int):List Int→Int→List Int→List Int
 | [],_,acc=>acc
 | x::X,n,acc=>if n=ct∧ct>0 then acc else if((if x>after then acc++[x]else acc).length:Int)>most then(if x>after then acc++[x]else acc)else wkR ct after most X (n+1) (if x>after then acc++[x]else acc)
theorem qG1 (ct after most:Int) (hc:0≤ct) (hm:0≤most):∀(X:List Int) (n:Int) (acc:List Int),(acc.length:Int)≤most→0≤n→(ct>0→n≤ct) →
  wkR ct after most X n acc=(acc++((if ct>0 then X.take (ct-n).toNat else X).filter fun x=>decide (x>after))).take (most.toNat+1)
 | [],n,acc,h1,h2,h3=>by
  have:(if ct>0 then([]:List Int).take (ct-n).toNat else [])=[]:=by split <;> simp
  rw[this,xH2,zE2,cF2 (by omega)];rfl
 | x::X,n,acc,h1,h2,h3=>by
  rw[wkR];by_cases c:n=ct∧ct>0
  ·rw[if_pos c,if_pos c.2,show(ct-n).toNat=0 by omega,List.take_zero,xH2,zE2,cF2 (by omega)]
  ·have e1:(if ct>0 then(x::X).take (ct-n).toNat else x::X)=x::(if ct>0 then X.take (ct-(n+1)).toNat else X):=by
    by_cases c2:ct>0
    ·have:=h3 c2;rw[if_pos c2,if_pos c2,show(ct-n).toNat=(ct-(n+1)).toNat+1 by omega,List.take_succ_cons]
    ·rw[if_neg c2,if_neg c2]
   have h3':ct>0→n+1≤ct:=fun q=>by have:=h3 q;omega
   rw[if_neg c,e1,bH2];by_cases ca:x>after
   ·rw[if_pos ca,dp ca,if_pos rfl];have hl:(acc++[x]).length=acc.length+1:=nG _ _;by_cases cm:((acc++[x]).length:Int)>most
    ·rw[if_pos cm,show acc++x::List.filter (fun x=>decide (x>after)) (if ct>0 then X.take (ct-(n+1)).toNat else X)=(acc++[x])++List.filter (fun x=>decide (x>after)) (if ct>0 then X.take (ct-(n+1)).toNat else X) by simp,jG2 (by omega),cF2 (by omega)]
    ·rw[if_neg cm,qG1 ct after most hc hm X (n+1) (acc++[x]) (by omega) (by omega) h3',uE2];rfl
   ·rw[if_neg ca,if_neg (show ¬(acc.length:Int)>most by omega),dn ca,if_neg (by simp)];exact qG1 ct after most hc hm X (n+1) acc h1 (by omega) h3'
section
variable {P : PlT} {r : Rl} {s : Int} {F : Int → Bool} {pr : Int → Int} {h m c : List Int} (hP : PlanOK P r s F pr h m c) (hV : RefOK r s F pr h m c)
variable (e after most : Int) (hE : inT e) (hmost : 0 ≤ most ∧ most ≤ 4096)
abbrev belW (r:Rl) (s:Int) (F:Int→Bool) (pr:Int→Int) (h m c:List Int):Int→Prop:=belP r.2.1 r.2.2.2.1 r.2.2.2.2.2.1 r.2.2.2.2.2.2.2.2.2.2.2.2.2.2.1 s F pr h m c
include hmost in
theorem sD2 (last n t counted:Int) (l:List Int) (i:Nat) (hi:i<1000000) (acc X:List Int) (hacc:(acc.length:Int)≤most) (hcnt:0≤counted∧counted≤1000000000000)
  (hk:∀acc',(acc'.length:Int)≤most→aA.l2 s e after most last (counted+1) n l ((i:Int)+1) r acc'=some (wkR r.2.2.1 after most X (counted+1) acc',())):
  aA.l7 s e after most last counted n l (i:Int) t r acc=some (wkR r.2.2.1 after most (t::X) counted acc,()):=by
 have hlim:eD=17179869184:=rfl
 have l8f:¬(counted=r.2.2.1∧r.2.2.1>0)→aA.l8 s e after most last counted n l (i:Int) t false r acc=some (wkR r.2.2.1 after most (t::X) counted acc,()):=fun cc=>by
  rw[aA.l8_eq,cond_false,aA.l9_eq,wkR,if_neg cc];by_cases ca:t>after
  ·have hl:(acc++[t]).length=acc.length+1:=nG _ _;rw[if_pos ca,dp ca];by_cases cm:((acc++[t]).length:Int)>most
   ·rw[if_pos cm];simp(disch:=omega)only[ss,vE2,hlim,aA.l10_eq,hl]
   ·rw[if_neg cm];simp(disch:=omega)only[ss,vE2,hlim,aA.l10_eq,hl];exact hk _ (by omega)
  ·rw[if_neg ca,dn ca,if_neg (by omega)];simp(disch:=omega)only[ss,aA.l10_eq];exact hk acc hacc
 rw[aA.l7_eq];by_cases c1:counted=r.2.2.1
 ·rw[dp c1,cond_true];by_cases c2:r.2.2.1>0
  ·rw[dp c2,aA.l8_eq,cond_true,wkR,if_pos ⟨c1,c2⟩]
  ·rw[dn c2];exact l8f fun q=>c2 q.2
 ·rw[dn c1,cond_false];exact l8f fun q=>c1 q.1
include hmost in
theorem qA2 (S:List Int) (last n t counted:Int) (l:List Int) (i:Nat) (hi:i<1000000) (acc X:List Int) (hacc:(acc.length:Int)≤most) (hcnt:0≤counted∧counted≤1000000000000)
  (hk:∀acc',(acc'.length:Int)≤most→aA.l2a s e after most S last (counted+1) n l ((i:Int)+1) r acc'=some (wkR r.2.2.1 after most X (counted+1) acc',())):
  aA.l7a s e after most S last counted n l (i:Int) t r acc=some (wkR r.2.2.1 after most (t::X) counted acc,()):=by
 have hlim:eD=17179869184:=rfl
 have l8f:¬(counted=r.2.2.1∧r.2.2.1>0)→aA.l8a s e after most S last counted n l (i:Int) t false r acc=some (wkR r.2.2.1 after most (t::X) counted acc,()):=fun cc=>by
  rw[aA.l8a_eq,cond_false,aA.l9a_eq,wkR,if_neg cc];by_cases ca:t>after
  ·have hl:(acc++[t]).length=acc.length+1:=nG _ _;rw[if_pos ca,dp ca];by_cases cm:((acc++[t]).length:Int)>most
   ·rw[if_pos cm];simp(disch:=omega)only[ss,vE2,hlim,aA.l10a_eq,hl]
   ·rw[if_neg cm];simp(disch:=omega)only[ss,vE2,hlim,aA.l10a_eq,hl];exact hk _ (by omega)
  ·rw[if_neg ca,dn ca,if_neg (by omega)];simp(disch:=omega)only[ss,aA.l10a_eq];exact hk acc hacc
 rw[aA.l7a_eq];by_cases c1:counted=r.2.2.1
 ·rw[dp c1,cond_true];by_cases c2:r.2.2.1>0
  ·rw[dp c2,aA.l8a_eq,cond_true,wkR,if_pos ⟨c1,c2⟩]
  ·rw[dn c2];exact l8f fun q=>c2 q.2
 ·rw[dn c1,cond_false];exact l8f fun q=>c1 q.1
theorem bE1 (n:Int) (hn:n*86400<e):memL (belW r s F pr h m c) (n*86400) e =
  ((memL (rawP r.2.1 s F pr h m c) (n*86400) (n*86400+86400)).filter fun x=>ind (belW r s F pr h m c x)&&decide (x<e))++memL (belW r s F pr h m c) ((n+1)*86400) e:=by
 have hm:=fun x=>kG (rawP r.2.1 s F pr h m c) (a:=n*86400) (b:=n*86400+86400) (x:=x)
 refine(pN _ (yM.2 ⟨List.Pairwise.sublist qH2 (pG _ _ _),pG _ _ _,fun x hx y hy=>?_⟩) fun x=>?_).symm
 ·have h1:=(hm x).1 (zF2.1 hx).1;have h2:=(kG _).1 hy;omega
 ·rw[xE2,zF2,hm,kG,iE2,gK,decide_eq_true_eq];constructor
  ·rintro(⟨⟨q1,q2,q3⟩,q4,q5⟩ | ⟨q1,q2,q3⟩)
   ·exact⟨q4,q2,q5⟩
   ·exact⟨q1,by omega,q3⟩
  ·rintro⟨q1,q2,q3⟩;by_cases c1:x<n*86400+86400
   ·exact .inl ⟨⟨q1.1,q2,c1⟩,q1,q3⟩
   ·exact .inr ⟨q1,by omega,q3⟩
def nQ1 (r:Rl) (s:Int) (F:Int→Bool) (pr:Int→Int) (h m c S:List Int) (k:Int):Prop:=
 ∀u,inT u→pr u=k→jD.f r S u=some (ind (∃G:List Int,Rise G∧(∀x,x∈G↔rawP r.2.1 s F pr h m c x∧pr x=pr u)∧rC1 r.2.2.2.2.2.2.2.2.2.2.2.2.2.2.1 (G.take 100001) u),())
include hmost in
theorem l6_a (hpo:r.2.2.2.2.2.2.2.2.2.2.2.2.2.2.1≠[]) (n t counted:Int) (l:List Int) (i:Nat) (hi:i<1000000) (acc D Y:List Int) (hx:rawP r.2.1 s F pr h m c t) (hs:s≤t) (ht:t<e) (hu:r.2.2.2.2.2.1=true→t≤r.2.2.2.1)
  (hacc:(acc.length:Int)≤most) (hc0:0≤counted) (hcnt:counted+((if(ind (belW r s F pr h m c t)&&decide (t<e))=true then t::D else D)++Y).length≤1000000000000) (S:List Int) (last:Int) (hS:nQ1 r s F pr h m c S last) (he:pr t=last)
  (ihn:∀(counted:Int) (acc:List Int),(acc.length:Int)≤most→0≤counted→counted+(D++Y).length≤1000000000000→aA.l2a s e after most S last counted n l ((i:Int)+1) r acc=some (wkR r.2.2.1 after most (D++Y) counted acc,())):
  aA.l6 s e after most S last counted n l (i:Int) t r acc=some (wkR r.2.2.1 after most ((if(ind (belW r s F pr h m c t)&&decide (t<e))=true then t::D else D)++Y) counted acc,()):=by
 rw[aA.l6_eq,hS t hx.1 he];simp only[hE2];by_cases cb:∃G:List Int,Rise G∧(∀x,x∈G↔rawP r.2.1 s F pr h m c x∧pr x=pr t)∧rC1 r.2.2.2.2.2.2.2.2.2.2.2.2.2.2.1 (G.take 100001) t
 ·have hbt:belW r s F pr h m c t:=⟨hx,hs,hu,.inr cb⟩
  have hf:(ind (belW r s F pr h m c t)&&decide (t<e))=true:=by rw[iE2,gK,decide_eq_true_eq];exact⟨hbt,ht⟩
  rw[if_pos hf]at hcnt ⊢;rw[zY cb,lE2,cond_false,fH2];rw[fH2,iF2]at hcnt;exact qA2 e after most hmost S last n t counted l i hi acc _ hacc ⟨hc0,by omega⟩ fun acc' ha'=>ihn (counted+1) acc' ha' (by omega) (by omega)
 ·have hf:¬(ind (belW r s F pr h m c t)&&decide (t<e))=true:=by
   rw[iE2,gK,decide_eq_true_eq];rintro⟨⟨_,_,_,q | q⟩,_⟩
   ·exact hpo q
   ·exact cb q
  rw[if_neg hf]at hcnt ⊢;rw[wS cb,eF2,cond_true];simp(disch:=omega)only[ss];exact ihn counted acc hacc hc0 hcnt
include hP hV hmost
theorem pO1 (hpo:r.2.2.2.2.2.2.2.2.2.2.2.2.2.2.1≠[]) (n:Int) (hn: -719162≤n∧n≤3000000) (l:List Int) (hlen:l.length≤86400) (hmem:∀x∈l,rawP r.2.1 s F pr h m c x) (Y:List Int)
  (hnext:∀(S:List Int) (last counted:Int) (acc:List Int),nQ1 r s F pr h m c S last→(acc.length:Int)≤most→0≤counted→counted+Y.length≤1000000000000→aA.l1a s e after most S last counted (n+1) r acc=some (wkR r.2.2.1 after most Y counted acc,())):
  ∀(q i:Nat),l.length-i=q→i≤l.length → ∀(S:List Int) (last counted:Int) (acc:List Int),nQ1 r s F pr h m c S last→(acc.length:Int)≤most→0≤counted→counted+(((l.drop i).filter fun x=>ind (belW r s F pr h m c x)&&decide (x<e))++Y).length≤1000000000000 →
   aA.l2a s e after most S last counted n l (i:Int) r acc=some (wkR r.2.2.1 after most (((l.drop i).filter fun x=>ind (belW r s F pr h m c x)&&decide (x<e))++Y) counted acc,()):=by
 have lp:=hP.lp;intro q
 induction q with
 | zero=>
  intro i hq hi S last counted acc hS hacc hc0 hcnt;have e0:i=l.length:=by omega
  subst e0;rw[jF2,xH2,dF2]at hcnt ⊢;rw[aA.l2a_eq];simp(disch:=omega)only[ss];exact hnext S last counted acc hS hacc hc0 hcnt
 | succ q ihq=>
  intro i hq hi S last counted acc hS hacc hc0 hcnt;have hlt:i<l.length:=by omega
  have hx:=hmem _ (yG hlt);rw[iB 0 hlt,bH2]at hcnt ⊢;rw[aA.l2a_eq,nF2];generalize l.getD i 0=t at hx hcnt ⊢;have ihn:=fun S last counted acc=>ihq (i+1) (by omega) (by omega) S last counted acc
  rw[gF2,hF2]at ihn;generalize (l.drop (i+1)).filter (fun x=>ind (belW r s F pr h m c x)&&decide (x<e))=D at hcnt ihn ⊢;have hit:inT t:=hx.1;obtain⟨R,hR⟩:∃R,R=some (wkR r.2.2.1 after most ((if(ind (belW r s F pr h m c t)&&decide (t<e))=true then t::D else D)++Y) counted acc,()):=⟨_,rfl⟩
  rw[←hR]
  have skip:¬(belW r s F pr h m c t∧t<e)→aA.l3a s e after most S last counted n l (i:Int) t true r acc=R:=fun hno=>by
   rw[hR];have hf:¬(ind (belW r s F pr h m c t)&&decide (t<e))=true:=by rw[iE2,gK,decide_eq_true_eq];exact hno
   rw[if_neg hf]at hcnt ⊢;rw[aA.l3a_eq,cond_true];simp(disch:=omega)only[ss];exact ihn S last counted acc hS hacc hc0 hcnt
  by_cases c1:t<s
  ·simp(disch:=omega)only[ss];exact skip fun q=>by have:=q.1.2.1;omega
  ·by_cases c2:t≥e
   ·simp(disch:=omega)only[ss];exact skip fun q=>by omega
   ·have take:(r.2.2.2.2.2.1=true→t≤r.2.2.2.1)→aA.l3a s e after most S last counted n l (i:Int) t false r acc=R:=fun hu=>by
     rw[hR]
     have new:aA.l5a s e after most S last counted n l (i:Int) t (pr t) true r acc=some (wkR r.2.2.1 after most ((if(ind (belW r s F pr h m c t)&&decide (t<e))=true then t::D else D)++Y) counted acc,()):=by obtain⟨S',⟨cd,hs1⟩,hs2⟩:=iW hP hV t hit;rw[aA.l5a_eq,cond_true,hs1];simp only[hE2];exact l6_a e after most hmost hpo n t counted l i (by omega) acc D Y hx (by omega) (by omega) hu hacc hc0 hcnt S' (pr t) hs2 rfl fun c' a'=>ihn S' (pr t) c' a' hs2
     have old:aA.l5a s e after most S last counted n l (i:Int) t (pr t) (!decide (pr t=last)) r acc=some (wkR r.2.2.1 after most ((if(ind (belW r s F pr h m c t)&&decide (t<e))=true then t::D else D)++Y) counted acc,()):=by
      by_cases ck:pr t=last
      ·rw[dp ck,lE2,aA.l5a_eq,cond_false];exact l6_a e after most hmost hpo n t counted l i (by omega) acc D Y hx (by omega) (by omega) hu hacc hc0 hcnt S last hS ck fun c' a'=>ihn S last c' a' hS
      ·rw[dn ck,eF2];exact new
     have:=wF.1 hpo;have hag:∀y:Option (List Int×Unit),yW y y=y:=fun y=>by unfold yW;rw[if_pos rfl]
     rw[aA.l3a_eq,cond_false,aA.l4a_eq,dp this,cond_true,hV.num t hit];simp only[hE2];rw[new,old,hag];cases decide (0<S.length) <;> rfl
    cases hen:r.2.2.2.2.2.1 with
    | false=>
     simp(disch:=omega)only[ss,hen];exact take (fun q=>by rw[hen]at q;cases q)
    | true=>
     by_cases c3:t>r.2.2.2.1
     ·simp(disch:=omega)only[ss,hen];exact skip fun q=>by have:=q.1.2.2.1 hen;omega
     ·simp(disch:=omega)only[ss,hen];exact take fun _=>by omega
include hE
theorem eE1 (n:Int):(∀x∈memL (rawP r.2.1 s F pr h m c) (n*86400) (n*86400+86400),rawP r.2.1 s F pr h m c x)∧(memL (rawP r.2.1 s F pr h m c) (n*86400) (n*86400+86400)).length≤86400:=by
 have _:=hP;have _:=hV;have _:=hE;have _:=hmost;have hmem:=fun x=>kG (rawP r.2.1 s F pr h m c) (a:=n*86400) (b:=n*86400+86400) (x:=x)
 refine⟨fun x hx=>((hmem x).1 hx).1,?_⟩;have:=gL (pG (rawP r.2.1 s F pr h m c) (n*86400) (n*86400+86400)) (a:=n*86400) (b:=n*86400+86399) fun x hx=>by have:=(hmem x).1 hx;omega
 omega
theorem hA2 (hpo:r.2.2.2.2.2.2.2.2.2.2.2.2.2.2.1≠[]):∀(k:Nat) (n:Int),e≤(n+k)*86400 → -719162≤n→n≤3000000 → ∀(S:List Int) (last counted:Int) (acc:List Int),nQ1 r s F pr h m c S last→(acc.length:Int)≤most→0≤counted→counted+(memL (belW r s F pr h m c) (n*86400) e).length≤1000000000000 →
  aA.l1a s e after most S last counted n r acc=some (wkR r.2.2.1 after most (memL (belW r s F pr h m c) (n*86400) e) counted acc,()):=by
 have hE0:=hE;unfold inT at hE;intro k
 induction k with
 | zero=>
  intro n hk hn1 hn2 S last counted acc hS hacc hc0 hcnt;rw[lP _ (by omega),aA.l1a_eq,wr (by omega) (by omega),dn (show ¬n*86400<e by omega),cond_false];rfl
 | succ k ih=>
  intro n hk hn1 hn2 S last counted acc hS hacc hc0 hcnt;rw[aA.l1a_eq,wr (by omega) (by omega)];by_cases cn:n*86400<e
  ·have hO:=dQ1 hP hV n 90000 ⟨hn1,by omega⟩ (by omega);obtain⟨f1,f2⟩:=eE1 hP hV e most hE0 hmost n;rw[dp cn,cond_true,hO];simp only[hE2];rw[bE1 (r:=r) (s:=s) (F:=F) (pr:=pr) (h:=h) (m:=m) (c:=c) e n cn]at hcnt ⊢;have:=pO1 hP hV e after most hmost hpo n ⟨hn1,hn2⟩ _ f2 f1 (memL (belW r s F pr h m c) ((n+1)*86400) e) (fun S last counted acc g1 g2 g3 g4=>ih (n+1) (by rw[gF2,hF2]at hk;omega) (by omega) (by omega) S last counted acc g1 g2 g3 g4) _ 0 rfl (kE2 _) S last counted acc hS hacc hc0 (by rw[yE2];exact hcnt);rw[qE2,yE2]at this;exact this
  ·rw[dn cn,cond_false,lP _ (by omega)];rfl
theorem oZ1 :∀(k:Nat) (n:Int),e≤(n+k)*86400 → -719162≤n→n≤3000000 → ∀(counted:Int) (acc:List Int),(acc.length:Int)≤most→0≤counted→counted+(memL (belW r s F pr h m c) (n*86400) e).length≤1000000000000 →
  aA.l1 s e after most 0 counted n r acc=some (wkR r.2.2.1 after most (memL (belW r s F pr h m c) (n*86400) e) counted acc,()):=by
 have hE0:=hE;unfold inT at hE;intro k
 induction k with
 | zero=>
  intro n hk hn1 hn2 counted acc hacc hc0 hcnt;rw[lP _ (by omega),aA.l1_eq,wr (by omega) (by omega),dn (show ¬n*86400<e by omega),cond_false];rfl
 | succ k ih=>
  intro n hk hn1 hn2 counted acc hacc hc0 hcnt;rw[aA.l1_eq,wr (by omega) (by omega)];by_cases cn:n*86400<e
  ·have hO:=dQ1 hP hV n 90000 ⟨hn1,by omega⟩ (by omega);obtain⟨f1,f2⟩:=eE1 hP hV e most hE0 hmost n;have hk':e≤(n+1+k)*86400:=by rw[gF2,hF2]at hk;omega
   rw[dp cn,cond_true,hO];simp only[hE2];rw[bE1 (r:=r) (s:=s) (F:=F) (pr:=pr) (h:=h) (m:=m) (c:=c) e n cn]at hcnt ⊢;generalize memL (rawP r.2.1 s F pr h m c) (n*86400) (n*86400+86400)=l at f1 f2 hcnt ⊢;have hnx:r.2.2.2.2.2.2.2.2.2.2.2.2.2.2.1≠[] → ∀(S:List Int) (last counted:Int) (acc:List Int),nQ1 r s F pr h m c S last→(acc.length:Int)≤most→0≤counted→counted+(memL (belW r s F pr h m c) ((n+1)*86400) e).length≤1000000000000→aA.l1a s e after most S last counted (n+1) r acc=some (wkR r.2.2.1 after most (memL (belW r s F pr h m c) ((n+1)*86400) e) counted acc,()):=
    fun hpo=>hA2 hP hV e after most hE0 hmost hpo k (n+1) hk' (by omega) (by omega)
   have ihx:=ih (n+1) hk' (by omega) (by omega);generalize memL (belW r s F pr h m c) ((n+1)*86400) e=Y at hnx ihx hcnt ⊢
   have inner:∀(q i:Nat),l.length-i=q→i≤l.length → ∀(counted:Int) (acc:List Int),(acc.length:Int)≤most→0≤counted→counted+(((l.drop i).filter fun x=>ind (belW r s F pr h m c x)&&decide (x<e))++Y).length≤1000000000000 →
     aA.l2 s e after most 0 counted n l (i:Int) r acc=some (wkR r.2.2.1 after most (((l.drop i).filter fun x=>ind (belW r s F pr h m c x)&&decide (x<e))++Y) counted acc,()):=by
    intro q
    induction q with
    | zero=>
     intro i hq hi counted acc hacc hc0 hcnt;have e0:i=l.length:=by omega
     subst e0;rw[jF2,xH2,dF2]at hcnt ⊢;rw[aA.l2_eq];simp(disch:=omega)only[ss];exact ihx counted acc hacc hc0 hcnt
    | succ q ihq=>
     intro i hq hi counted acc hacc hc0 hcnt;have hlt:i<l.length:=by omega
     have hx:=f1 _ (yG hlt);have ha:=fun hpo=>pO1 hP hV e after most hmost hpo n ⟨hn1,hn2⟩ l f2 f1 Y (hnx hpo) q (i+1) (by omega) (by omega)
     rw[iB 0 hlt,bH2]at hcnt ⊢;rw[aA.l2_eq,nF2];generalize l.getD i 0=t at hx hcnt ⊢;have ihn:=fun counted acc=>ihq (i+1) (by omega) (by omega) counted acc
     rw[gF2,hF2]at ihn ha;generalize (l.drop (i+1)).filter (fun x=>ind (belW r s F pr h m c x)&&decide (x<e))=D at hcnt ihn ha ⊢;have hit:inT t:=hx.1;obtain⟨R,hR⟩:∃R,R=some (wkR r.2.2.1 after most ((if(ind (belW r s F pr h m c t)&&decide (t<e))=true then t::D else D)++Y) counted acc,()):=⟨_,rfl⟩
     rw[←hR]
     have skip:¬(belW r s F pr h m c t∧t<e)→aA.l3 s e after most 0 counted n l (i:Int) t true r acc=R:=fun hno=>by
      rw[hR];have hf:¬(ind (belW r s F pr h m c t)&&decide (t<e))=true:=by rw[iE2,gK,decide_eq_true_eq];exact hno
      rw[if_neg hf]at hcnt ⊢;rw[aA.l3_eq,cond_true];simp(disch:=omega)only[ss];exact ihn counted acc hacc hc0 hcnt
     by_cases c1:t<s
     ·simp(disch:=omega)only[ss];exact skip fun q=>by have:=q.1.2.1;omega
     ·by_cases c2:t≥e
      ·simp(disch:=omega)only[ss];exact skip fun q=>by omega
      ·have take:(r.2.2.2.2.2.1=true→t≤r.2.2.2.1)→aA.l3 s e after most 0 counted n l (i:Int) t false r acc=R:=fun hu=>by
        rw[hR];rw[aA.l3_eq,cond_false,aA.l4_eq];by_cases hpo:r.2.2.2.2.2.2.2.2.2.2.2.2.2.2.1=[]
        ·have hbt:belW r s F pr h m c t:=⟨hx,by omega,hu,.inl hpo⟩
         have hf:(ind (belW r s F pr h m c t)&&decide (t<e))=true:=by rw[iE2,gK,decide_eq_true_eq];exact⟨hbt,by omega⟩
         rw[if_pos hf]at hcnt ⊢;rw[fH2,iF2]at hcnt;rw[dn (show ¬(r.2.2.2.2.2.2.2.2.2.2.2.2.2.2.1.length:Int)>0 by rw[hpo];simp),cond_false,fH2];exact sD2 e after most hmost 0 n t counted l i (by omega) acc _ hacc ⟨hc0,by omega⟩ fun acc' ha'=>ihn (counted+1) acc' ha' (by omega) (by omega)
        ·obtain⟨S',⟨cd,hs1⟩,hs2⟩:=iW hP hV t hit;rw[dp (wF.1 hpo),cond_true,hV.num t hit];simp only[hE2];rw[aA.l5_eq,cond_true,hs1];simp only[hE2];exact l6_a e after most hmost hpo n t counted l i (by omega) acc D Y hx (by omega) (by omega) hu hacc hc0 hcnt S' (pr t) hs2 rfl fun c' a'=>ha hpo S' (pr t) c' a' hs2
       cases hen:r.2.2.2.2.2.1 with
       | false=>
        simp(disch:=omega)only[ss,hen];exact take (fun q=>by rw[hen]at q;cases q)
       | true=>
        by_cases c3:t>r.2.2.2.1
        ·simp(disch:=omega)only[ss,hen];exact skip fun q=>by have:=q.1.2.2.1 hen;omega
        ·simp(disch:=omega)only[ss,hen];exact take fun _=>by omega
   have:=inner _ 0 rfl (kE2 _) counted acc hacc hc0 (by rw[yE2];exact hcnt);rw[qE2,yE2]at this;exact this
  ·rw[dn cn,cond_false,lP _ (by omega)];rfl
end
section
variable {r : Rl} {s e : Int} (hr : fI r) (hm : tA.f r = some (true, ())) (ho : okE s e)
include hr hm ho
theorem gQ1 (after most:Int) (hmost:0≤most∧most≤4096):aA.f r s e after most=some (((LS r s e).filter fun x=>decide (x>after)).take (most.toNat+1),()):=by
 obtain⟨g1,g2,g3⟩:=ho;obtain⟨P,_,hP⟩:=sC1 r hr hm s g1;have hn:=uG1 hr hm;have hD:=(qF s (by unfold inT at g1;omega) (by unfold inT at g1;omega)).2;have hd:=uJ g1;obtain⟨f,iv,ct,un,wkst,en,mo,we,yd,md,dy,ho,mi,se,po,⟨⟩⟩:=r;have hV:=pB2 f iv ct un wkst en mo we yd md dy ho mi se po s hr hm g1;have e1:memL (belR (f,iv,ct,un,wkst,en,mo,we,yd,md,dy,ho,mi,se,po,()) s) (s/86400*86400) e=memR (f,iv,ct,un,wkst,en,mo,we,yd,md,dy,ho,mi,se,po,()) s e:=
  pN _ (pG _ _ _) fun x=>by rw[kG];refine⟨fun q=>⟨q.1,q.1.2.1,q.2.2⟩,fun q=>⟨q.1,by omega,q.2.2⟩⟩
 have hlen:(memR (f,iv,ct,un,wkst,en,mo,we,yd,md,dy,ho,mi,se,po,()) s e).length≤400000000000:=by
  unfold inT at g1 g2
  have:=gL (iU (f,iv,ct,un,wkst,en,mo,we,yd,md,dy,ho,mi,se,po,()) s e) (a:=s) (b:=e) fun x hx=>by have:=(cJ1).1 hx;have:=this.1.2.1;omega
  omega
 have hw:=oZ1 hP hV e after most g2 hmost ((e-s).toNat+1) (s/86400) (by omega) hd.1 (by omega) 0 [] (by simp;omega) (vF2 _) (by show(0:Int)+(memL (belR (f,iv,ct,un,wkst,en,mo,we,yd,md,dy,ho,mi,se,po,()) s) (s/86400*86400) e).length≤_;rw[e1];omega);rw[aA.f_eq,hD];simp only[hE2];rw[hw];show some (wkR ct after most (memL (belR (f,iv,ct,un,wkst,en,mo,we,yd,md,dy,ho,mi,se,po,()) s) (s/86400*86400) e) 0 [],())=_;rw[e1,qG1 ct after most hn.1.1 hmost.1 _ 0 [] (by simp;omega) (vF2 _) (fun _=>hn.1.1),dF2];unfold LS;dsimp only;by_cases c:ct>0
 ·rw[if_pos c,if_pos c,Int.sub_zero]
 ·rw[if_neg c,if_neg c]
theorem rM1 :rI.f s e=some (false,()):=by have _:=hr;have _:=hm;obtain⟨g1,g2,g3⟩:=ho;unfold inT at g1 g2;rw[rI.f_eq,(oH e).2,dp g2];simp only[hE2,lE2,cond_false];rw[wr (by omega) (by omega),dn (show ¬e-s>316224000 by omega)]
theorem pX :sD.f r s=some (true,()):=by
 have hv:bA.f r=some (true,()):=by rw[←gO r hr];exact hm
 rw[sD.f_eq,hv,(oH s).2,dp ho.1];rfl
theorem oT1 (most:Int) (h1:1≤most) (h2:most≤4096):sC.f r s e most=some (if((LS r s e).length:Int)>most then([],10,())else(LS r s e,0,())):=by
 have g1:=ho.1;unfold inT at g1;have hw:=gQ1 hr hm ho (s-1) most ⟨by omega,h2⟩
 have hall:((LS r s e).filter fun x=>decide (x>s-1))=LS r s e:=List.filter_eq_self.2 fun x hx=>by have:=dW1 hx;rw[decide_eq_true_eq];omega
 rw[hall]at hw;rw[sC.f_eq,pX hr hm ho,rM1 hr hm ho];simp only[hE2,lE2,cond_false];rw[dn (show ¬most<1 by omega),cond_false,dn (show ¬most>4096 by omega),sC.l1_eq,cond_false,wr (by omega) (by omega),hw];simp only[hE2];by_cases c:((LS r s e).length:Int)>most
 ·rw[if_pos c,dp,cond_true];rw[fF2];omega
 ·rw[if_neg c,cF2 (by omega),dn c,cond_false]
end
theorem gX1 {r:Rl} {s e:Int} {bm:Bool} (hr:fI r) (hm:tA.f r=some (bm,())) (h:¬(bm=true∧okE s e)):(∀most,sC.f r s e most=some ([],1,())) ∧ True:=by
 have hv:bA.f r=some (bm,()):=by rw[←gO r hr];exact hm
 have lt:∀most,sC.l1 s e most true r=some ([],1,()):=fun most=>by rw[sC.l1_eq,cond_true]
 have hR:sD.f r s=some (bm&&decide (inT s),()):=by
  rw[sD.f_eq,hv];simp only[hE2]
  cases bm with
  | false=>rfl
  | true=>rw[cond_true,(oH s).2];rfl
 by_cases c:(bm&&decide (inT s))=true
 ·rw[c]at hR;rw[iE2,decide_eq_true_eq]at c;obtain⟨rfl,c2⟩:=c;have hF:rI.f s e=some (true,()):=by
   rw[rI.f_eq,(oH e).2];simp only[hE2];by_cases c3:inT e
   ·unfold inT at c2 c3;rw[dp c3,lE2,cond_false,wr (by omega) (by omega),dp];refine Classical.byContradiction fun q=>h ⟨rfl,c2,c3,fun _=>by omega⟩
   ·unfold inT at c3;rw[dn c3,eF2,cond_true]
  refine⟨fun most=>?_,trivial⟩
  ·rw[sC.f_eq,hR,hF];simp only[hE2,lE2,cond_false,cond_true];exact lt most
 ·have c':(bm&&decide (inT s))=false:=by
   cases q:bm&&decide (inT s)with
   | false=>rfl
   | true=>exact absurd q c
  rw[c']at hR;refine⟨fun most=>?_,trivial⟩
  ·rw[sC.f_eq,hR];simp only[hE2,eF2,cond_true];exact lt most
theorem wK1 (l:List Dy) (hl:l.length≤1000000):iC.f l l=some (true,()):=by
 have key:∀(k i:Nat),l.length-i=k→i≤l.length→iC.l1 l l i=some (true,()):=by
  intro k
  induction k with
  | zero=>
   intro i hk hi;rw[iC.l1_eq];simp(disch:=omega)only[ss]
  | succ k ih=>
   intro i hk hi;have h1:=ih (i+1) (by omega) (by omega);rw[gF2,hF2]at h1;rw[iC.l1_eq];simp(disch:=omega)only[ss,iC.l2_eq];exact h1
 have:=key _ 0 rfl (kE2 _);rw[qE2]at this;rw[iC.f_eq];simp(disch:=omega)only[ss,this]
theorem oK1 (r:Rl) (h:fI r):wG.f r r=some (true,()):=by unfold fI eN at h;obtain⟨h1,h2,h3,h4,h5,h6,h7,h8,h9⟩:=h;rw[wG.f_eq,rH _ (by omega),rH _ (by omega),rH _ (by omega),rH _ (by omega),wK1 _ (by omega),rH _ (by omega),rH _ (by omega),rH _ (by omega),rH _ (by omega)];simp(disch:=omega)only[ss,beq_self_eq_true]
theorem cL1 (r:Rl) (hr:fI r) (s e most:Int):∃L cd,iF.f r s e most=some (L,cd,())∧sC.f r s e most=some (L,cd,())∧L.length≤4096:=by
 obtain⟨bm,hm⟩:=pO r hr;by_cases c:bm=true∧okE s e
 ·obtain⟨rfl,ho⟩:=c;by_cases c1:most<1∨most>4096
  ·obtain⟨P,hMk,hP⟩:=sC1 r hr hm s ho.1;refine⟨[],1,?_,?_,kE2 _⟩
   ·rw[iF.f_eq,hM1 hMk ho];simp only[hE2];rw[lE2,cond_false];rcases c1 with c1 | c1
    ·rw[dp c1,cond_true]
    ·rw[dn (show ¬most<1 by omega),cond_false,dp c1,cond_true]
   ·have lt:sC.l1 s e most true r=some ([],1,()):=by rw[sC.l1_eq,cond_true]
    rw[sC.f_eq,pX hr hm ho,rM1 hr hm ho];simp only[hE2,lE2,cond_false];rcases c1 with c1 | c1
    ·rw[dp c1,cond_true,lt]
    ·rw[dn (show ¬most<1 by omega),cond_false,dp c1,lt]
  ·have h1:=fN1 hr hm ho most (by omega) (by omega);have h2:=oT1 hr hm ho most (by omega) (by omega);by_cases c2:((LS r s e).length:Int)>most
   ·rw[if_pos c2]at h1 h2;exact⟨_,_,h1,h2,kE2 _⟩
   ·rw[if_neg c2]at h1 h2;exact⟨_,_,h1,h2,by omega⟩
 ·exact⟨[],1,(uV1 hr hm c).1 most,(gX1 hr hm c).1 most,kE2 _⟩
theorem vI2 (a b:List Int) (ha:a.length≤1000000):dC.f a b=some (decide (a=b),()):=by
 rw[dC.f_eq];by_cases hl:a.length=b.length
 ·have key:∀(k i:Nat),a.length-i=k→i≤a.length→dC.l1 a b i=some (decide (a.drop i=b.drop i),()):=by
   intro k
   induction k with
   | zero=>
    intro i hk hia;have e1:a.drop i=[]:=cG2 (by omega);have e2:b.drop i=[]:=cG2 (by omega);rw[dC.l1_eq,e1,e2];simp(disch:=omega)only[ss]
   | succ k ih=>
    intro i hk hia;have h1:i<a.length:=by omega
    have h2:i<b.length:=by omega
    have:=ih (i+1) (by omega) (by omega);rw[dC.l1_eq,iB 0 h1,iB 0 h2];by_cases c:a.getD i 0=b.getD i 0
    ·have e:decide (a.getD i 0::a.drop (i+1)=b.getD i 0::b.drop (i+1))=decide (a.drop (i+1)=b.drop (i+1)):=decide_eq_decide.2 ⟨fun h=>(lH2 h).2,fun h=>by rw[c,h]⟩;rw[e];simp(disch:=omega)only[ss];exact this
    ·have e:decide (a.getD i 0::a.drop (i+1)=b.getD i 0::b.drop (i+1))=false:=dn fun h=>c (lH2 h).1
     rw[e];simp(disch:=omega)only[ss]
  have:=key _ 0 rfl (kE2 _);rw[qE2,yE2,yE2]at this;simp(disch:=omega)only[ss,this]
 ·rw[dn (show ¬a=b from fun h=>hl (by rw[h]))];simp(disch:=omega)only[ss]
theorem vD2 (a b:List Dy) (ha:a.length≤1000000):iC.f a b=some (decide (a=b),()):=by
 rw[iC.f_eq];by_cases hl:a.length=b.length
 ·have key:∀(k i:Nat),a.length-i=k→i≤a.length→iC.l1 a b i=some (decide (a.drop i=b.drop i),()):=by
   intro k
   induction k with
   | zero=>
    intro i hk hia;have e1:a.drop i=[]:=cG2 (by omega);have e2:b.drop i=[]:=cG2 (by omega);rw[iC.l1_eq,e1,e2];simp(disch:=omega)only[ss]
   | succ k ih=>
    intro i hk hia;have h1:i<a.length:=by omega
    have h2:i<b.length:=by omega
    have:=ih (i+1) (by omega) (by omega);rw[iC.l1_eq,iB ((0,0,()):Dy) h1,iB ((0,0,()):Dy) h2];generalize hx:a.getD i ((0,0,()):Dy)=x;generalize hy:b.getD i ((0,0,()):Dy)=y;have hx':a.getD i ((0,0,()):Int×Int×Unit)=x:=hx;have hy':b.getD i ((0,0,()):Int×Int×Unit)=y:=hy;obtain⟨x1,x2,⟨⟩⟩:=x;obtain⟨y1,y2,⟨⟩⟩:=y;by_cases c:x1=y1∧x2=y2
    ·obtain⟨rfl,rfl⟩:=c;have e:decide ((x1,x2,())::a.drop (i+1)=(x1,x2,())::b.drop (i+1))=decide (a.drop (i+1)=b.drop (i+1)):=decide_eq_decide.2 ⟨fun h=>(lH2 h).2,fun h=>by rw[h]⟩;rw[e];simp(disch:=omega)only[ss,hx',hy',iC.l2_eq];exact this
    ·have e:decide ((x1,x2,())::a.drop (i+1)=(y1,y2,())::b.drop (i+1))=false:=dn fun h=>c (by have:=(lH2 h).1;cases this;exact⟨rfl,rfl⟩)
     rw[e];by_cases c1:x1=y1
     ·have c2:¬x2=y2:=fun h=>c ⟨c1,h⟩
      simp(disch:=omega)only[ss,hx',hy',iC.l2_eq]
     ·simp(disch:=omega)only[ss,hx',hy',iC.l2_eq]
  have:=key _ 0 rfl (kE2 _);rw[qE2,yE2,yE2]at this;simp(disch:=omega)only[ss,this]
 ·rw[dn (show ¬a=b from fun h=>hl (by rw[h]))];simp(disch:=omega)only[ss]
theorem sJ1 (r q:Rl) (hr:fI r):oC (wG.f r q) (r=q):=by
 unfold fI eN at hr;obtain⟨f,iv,ct,un,wk,en,mo,we,yd,md,dy,ho,mi,se,po,⟨⟩⟩:=r;obtain⟨f',iv',ct',un',wk',en',mo',we',yd',md',dy',ho',mi',se',po',⟨⟩⟩:=q;dsimp only at hr;obtain⟨h1,h2,h3,h4,h5,h6,h7,h8,h9⟩:=hr;have no:∀{p:Prop},¬p→oC (some (false,())) p:=fun h=>⟨false,rfl,by simp[h]⟩
 rw[wG.f_eq,vI2 mo mo' (by omega),vI2 we we' (by omega),vI2 yd yd' (by omega),vI2 md md' (by omega),vD2 dy dy' (by omega),vI2 ho ho' (by omega),vI2 mi mi' (by omega),vI2 se se' (by omega),vI2 po po' (by omega)];simp only[hE2];by_cases c0:f=f'
 rotate_left
 ·simp only[dn c0,cond_true,cond_false];exact no fun h=>c0 (by cases h;rfl)
 by_cases c1:iv=iv'
 rotate_left
 ·simp only[dp c0,dn c1,cond_true,cond_false];exact no fun h=>c1 (by cases h;rfl)
 by_cases c2:ct=ct'
 rotate_left
 ·simp only[dp c0,dp c1,dn c2,cond_true,cond_false];exact no fun h=>c2 (by cases h;rfl)
 by_cases c3:un=un'
 rotate_left
 ·simp only[dp c0,dp c1,dp c2,dn c3,cond_true,cond_false];exact no fun h=>c3 (by cases h;rfl)
 by_cases c4:wk=wk'
 rotate_left
 ·simp only[dp c0,dp c1,dp c2,dp c3,dn c4,cond_true,cond_false];exact no fun h=>c4 (by cases h;rfl)
 by_cases c5:en=en'
 rotate_left
 ·have e:(en==en')=false:=by cases en <;> cases en' <;> first | rfl | exact absurd rfl c5
  simp only[dp c0,dp c1,dp c2,dp c3,dp c4,e,cond_true,cond_false];exact no fun h=>c5 (by cases h;rfl)
 have e5:(en==en')=true:=by rw[c5,beq_self_eq_true]
 by_cases c6:mo=mo'
 rotate_left
 ·simp only[dp c0,dp c1,dp c2,dp c3,dp c4,e5,dn c6,cond_true,cond_false];exact no fun h=>c6 (by cases h;rfl)
 by_cases c7:we=we'
 rotate_left
 ·simp only[dp c0,dp c1,dp c2,dp c3,dp c4,dp c6,e5,dn c7,cond_true,cond_false];exact no fun h=>c7 (by cases h;rfl)
 by_cases c8:yd=yd'
 rotate_left
 ·simp only[dp c0,dp c1,dp c2,dp c3,dp c4,dp c6,dp c7,e5,dn c8,cond_true,cond_false];exact no fun h=>c8 (by cases h;rfl)
 by_cases c9:md=md'
 rotate_left
 ·simp only[dp c0,dp c1,dp c2,dp c3,dp c4,dp c6,dp c7,dp c8,e5,dn c9,cond_true,cond_false];exact no fun h=>c9 (by cases h;rfl)
 by_cases c10:dy=dy'
 rotate_left
 ·simp only[dp c0,dp c1,dp c2,dp c3,dp c4,dp c6,dp c7,dp c8,dp c9,e5,dn c10,cond_true,cond_false];exact no fun h=>c10 (by cases h;rfl)
 by_cases c11:ho=ho'
 rotate_left
 ·simp only[dp c0,dp c1,dp c2,dp c3,dp c4,dp c6,dp c7,dp c8,dp c9,dp c10,e5,dn c11,cond_true,cond_false];exact no fun h=>c11 (by cases h;rfl)
 by_cases c12:mi=mi'
 rotate_left
 ·simp only[dp c0,dp c1,dp c2,dp c3,dp c4,dp c6,dp c7,dp c8,dp c9,dp c10,dp c11,e5,dn c12,cond_true,cond_false];exact no fun h=>c12 (by cases h;rfl)
 by_cases c13:se=se'
 rotate_left
 ·simp only[dp c0,dp c1,dp c2,dp c3,dp c4,dp c6,dp c7,dp c8,dp c9,dp c10,dp c11,dp c12,e5,dn c13,cond_true,cond_false];exact no fun h=>c13 (by cases h;rfl)
 by_cases c14:po=po'
 rotate_left
 ·simp only[dp c0,dp c1,dp c2,dp c3,dp c4,dp c6,dp c7,dp c8,dp c9,dp c10,dp c11,dp c12,dp c13,e5,dn c14,cond_true,cond_false];exact no fun h=>c14 (by cases h;rfl)
 simp only[dp c0,dp c1,dp c2,dp c3,dp c4,dp c6,dp c7,dp c8,dp c9,dp c10,dp c11,dp c12,dp c13,dp c14,e5,cond_true];exact⟨true,rfl,by simp[c0,c1,c2,c3,c4,c5,c6,c7,c8,c9,c10,c11,c12,c13,c14]⟩
theorem sV (t:Int):oC (cI.f t) (innP t):=by
 have a:=iO 2 1 1 0 0 0 (by decide) (by omega) (by omega) (by omega);have b:=iO 9998 12 31 23 59 59 (by decide) (by omega) (by omega) (by omega);rw[show(fst_ 2+1-1+cum 2 1)*86400+0*3600+0*60+0 = -62104060800 by decide]at a;rw[show(fst_ 9998+31-1+cum 9998 12)*86400+23*3600+59*60+59=253370764799 by decide]at b;unfold innP;rw[cI.f_eq,a,b];by_cases c:t ≥ -62104060800
 ·simp(disch:=omega)only[ss];exact⟨_,rfl,by rw[decide_eq_true_eq];omega⟩
 ·simp(disch:=omega)only[ss];exact⟨_,rfl,by simp;omega⟩
theorem oN1 (l:List Int) (hl:l.length≤1000000):∀(k i:Nat),l.length-i=k→i≤l.length →
  oC (wD.l1 l (i:Int)) ((∀j,i≤j→j<l.length→innP (l.getD j 0))∧(∀j,j<l.length→adjI l j)∧l.length≤64):=by
 intro k
 induction k with
 | zero=>
  intro i hk hil;obtain⟨b,hb,hi⟩:=oU l hl;rw[wD.l1_eq];by_cases c:(l.length:Int)≤64
  ·simp(disch:=omega)only[ss,hb];exact⟨b,rfl,hi.trans ⟨fun h=>⟨fun j h1 h2=>by omega,h,by omega⟩,fun h=>h.2.1⟩⟩
  ·simp(disch:=omega)only[ss];exact⟨false,rfl,by simp;intro _ _;omega⟩
 | succ k ih=>
  intro i hk hil;have hlt:i<l.length:=by omega
  obtain⟨b,hb,hi⟩:=sV (l.getD i 0);rw[wD.l1_eq];simp(disch:=omega)only[ss,hb]
  cases b with
  | false=>
   rw[eF2,cond_true];exact⟨false,rfl,by simp;intro q;exact absurd (hi.2 (q i (rE2 _) hlt)) (by simp)⟩
  | true=>
   rw[lE2,cond_false];refine(ih (i+1) (by omega) (by omega)).iff ⟨fun q=>⟨fun j h1 h2=>?_,q.2⟩,fun q=>⟨fun j h1 h2=>q.1 j (by omega) h2,q.2⟩⟩;by_cases e:j=i
   ·subst e;exact hi.1 rfl
   ·exact q.1 j (by omega) h2
theorem kU (l:List Int) (hl:l.length≤1000000):oC (wD.f l) (uO l):=by have:=oN1 l hl _ 0 rfl (kE2 _);rw[qE2]at this;rw[wD.f_eq];exact this.iff ⟨fun q=>⟨fun j hj=>⟨q.1 j (kE2 _) hj,q.2.1 j hj⟩,q.2.2⟩,fun q=>⟨fun j _ hj=>(q.1 j hj).1,fun j hj=>(q.1 j hj).2,q.2⟩⟩
theorem mV1 (m:Mt) (h:mP m):oC (bC.f m) (mayM m):=by
 obtain⟨z,st,du,rc,r,da,ex,⟨⟩⟩:=m;obtain⟨h1,h2,h3⟩:=h;dsimp only at h1 h2 h3
 have stop:¬mayM (z,st,du,rc,r,da,ex,())→oC (bC.l1 true (z,st,du,rc,r,da,ex,())) (mayM (z,st,du,rc,r,da,ex,())):=fun q=>by rw[bC.l1_eq,cond_true];exact⟨false,rfl,by simp[q]⟩
 obtain⟨b1,g1,k1⟩:=sV st;obtain⟨b2,g2,k2⟩:=kU da h2;obtain⟨b3,g3,k3⟩:=kU ex h3;unfold mayM at stop ⊢;dsimp only at stop ⊢;rw[bC.f_eq];dsimp only;by_cases c1:z<0
 ·rw[dp c1];exact stop fun q=>by omega
 rw[dn c1,cond_false];by_cases c2:z>15
 ·rw[dp c2];exact stop fun q=>by omega
 rw[dn c2,cond_false,g1]
 cases b1 with
 | false=>exact stop fun q=>by have:=k1.2 q.2.2.1;cases this
 | true=>
 simp(disch:=omega)only[ss];by_cases c3:du<1
 ·rw[dp c3];exact stop fun q=>by omega
 rw[dn c3,cond_false];by_cases c4:du>2678400
 ·rw[dp c4];exact stop fun q=>by omega
 rw[dn c4,cond_false,g2]
 cases b2 with
 | false=>exact stop fun q=>by have:=k2.2 q.2.2.2.2.2.1;cases this
 | true=>
 simp(disch:=omega)only[ss,g3]
 cases b3 with
 | false=>exact stop fun q=>by have:=k3.2 q.2.2.2.2.2.2.1;cases this
 | true=>
 rw[lE2,bC.l1_eq,cond_false];dsimp only;have base:0≤z∧z<16∧innP st∧1≤du∧du≤2678400∧uO da∧uO ex:=⟨by omega,by omega,k1.1 rfl,by omega,by omega,k2.1 rfl,k3.1 rfl⟩
 obtain⟨i1,i2,i3,i4,i5,i6,i7⟩:=base
 cases rc with
 | true=>
  obtain⟨b,hb⟩:=pO r h1;have hv:bA.f r=some (b,()):=by rw[←gO r h1];exact hb
  rw[cond_true,hv];refine⟨b,rfl,fun e=>⟨i1,i2,i3,i4,i5,i6,i7,(fun _=>by rw[hb,e]),(fun e=>by cases e)⟩,fun q=>?_⟩;have:=q.2.2.2.2.2.2.2.1 rfl;rw[hb]at this;exact congrArg Prod.fst (oF2 this)
 | false=>
  obtain⟨b,hb,hq⟩:=sJ1 r zR h1;have hb:wG.f r (0,0,0,0,0,false,[],[],[],[],[],[],[],[],[],())=some (b,()):=hb;rw[cond_false,hb];exact⟨b,rfl,fun e=>⟨i1,i2,i3,i4,i5,i6,i7,(fun e=>by cases e),fun _=>hq.1 e⟩,fun q=>hq.2 (q.2.2.2.2.2.2.2.2 rfl)⟩
theorem bE2 (l:List Int) (hl:l.length≤1000000) (x:Int):nD.f l x=some (decide (x∈l),()):=by
 have key:∀(k i:Nat),l.length-i=k→i≤l.length→nD.l1 l x i=some (decide (x∈l.drop i),()):=by
  intro k
  induction k with
  | zero=>
   intro i hk hi;have e:i=l.length:=by omega
   subst e;rw[nD.l1_eq];simp(disch:=omega)only[ss,jF2];simp
  | succ k ih=>
   intro i hk hi;have hlt:i<l.length:=by omega
   rw[nD.l1_eq,iB 0 hlt];by_cases h:l.getD i 0=x
   ·simp(disch:=omega)only[ss];rw[h];simp
   ·simp(disch:=omega)only[ss];refine(ih (i+1) (by omega) (by omega)).trans ?_;have e:x∈l.getD i 0::l.drop (i+1)↔x∈l.drop (i+1):=by rw[pE2];exact⟨fun h1=>h1.elim (fun h1=>absurd h1.symm h) id,.inr⟩
    rw[decide_eq_decide.2 e]
 rw[nD.f_eq];have:=key _ 0 rfl (kE2 _);rw[yE2]at this;exact this
theorem qU1 (a b:List Int) (ha:a.length≤1000000) (hb:b.length≤1000000) (ra:Rise a) (rb:Rise b):∀(k i j:Nat) (acc:List Int),(a.length-i)+(b.length-j)=k→i≤a.length→j≤b.length→acc.length≤i+j →
  ∃s,oA.l1 a b (i:Int) (j:Int) acc=some (acc++s,())∧Rise s∧s.length≤k ∧ ∀x,x∈s↔x∈a.drop i∨x∈b.drop j:=by
 have hlim:eD=17179869184:=rfl;intro k
 induction k with
 | zero=>
  intro i j acc hk hi hj hacc;have e1:i=a.length:=by omega
  have e2:j=b.length:=by omega
  subst e1 e2;refine⟨[],?_,lG,rE2 _,fun x=>?_⟩
  ·rw[oA.l1_eq];simp(disch:=omega)only[ss,oA.l2_eq,zE2]
  ·rw[jF2,jF2];simp
 | succ k ih=>
  intro i j acc hk hi hj hacc;have ga:i<a.length → ∀x,x∈a.drop i↔x=a.getD i 0∨x∈a.drop (i+1):=fun h x=>by rw[iB 0 h,pE2]
  have gb:j<b.length → ∀x,x∈b.drop j↔x=b.getD j 0∨x∈b.drop (j+1):=fun h x=>by rw[iB 0 h,pE2]
  have la:i<a.length → ∀x,x∈a.drop (i+1)→a.getD i 0<x:=fun h=>by have q:Rise (a.drop i):=List.Pairwise.sublist (List.drop_sublist i a) ra;rw[iB 0 h]at q;exact(kE.1 q).1
  have lb:j<b.length → ∀x,x∈b.drop (j+1)→b.getD j 0<x:=fun h=>by have q:Rise (b.drop j):=List.Pairwise.sublist (List.drop_sublist j b) rb;rw[iB 0 h]at q;exact(kE.1 q).1
  have head:oA.l1 a b (i:Int) (j:Int) acc=oA.l3 a b (i:Int) (j:Int) acc:=by
   rw[oA.l1_eq];by_cases c:i<a.length
   ·simp(disch:=omega)only[ss,oA.l2_eq]
   ·simp(disch:=omega)only[ss,oA.l2_eq]
  have takeA:i<a.length→(∀x,x∈b.drop j→a.getD i 0<x) → ∃s,oA.l4 a b (i:Int) (j:Int) true acc=some (acc++s,())∧Rise s∧s.length≤k+1 ∧ ∀x,x∈s↔x∈a.drop i∨x∈b.drop j:=fun h h2=>by
   obtain⟨s,h3,h4,h5,h6⟩:=ih (i+1) j (acc++[a.getD i 0]) (by omega) (by omega) hj (by rw[jE2,vE2];omega);refine⟨a.getD i 0::s,?_,kE.2 ⟨fun y hy=>?_,h4⟩,by rw[iF2];omega,fun x=>?_⟩
   ·rw[oA.l4_eq];simp(disch:=omega)only[ss,vE2,hlim];rw[uE2]at h3;exact h3
   ·rcases(h6 y).1 hy with q | q
    ·exact la h y q
    ·exact h2 y q
   ·rw[pE2,h6,ga h];exact or_assoc.symm
  have takeB:j<b.length→(∀x,x∈a.drop i→b.getD j 0<x) → ∃s,oA.l5 a b (i:Int) (j:Int) true acc=some (acc++s,())∧Rise s∧s.length≤k+1 ∧ ∀x,x∈s↔x∈a.drop i∨x∈b.drop j:=fun h h2=>by
   obtain⟨s,h3,h4,h5,h6⟩:=ih i (j+1) (acc++[b.getD j 0]) (by omega) hi (by omega) (by rw[jE2,vE2];omega);refine⟨b.getD j 0::s,?_,kE.2 ⟨fun y hy=>?_,h4⟩,by rw[iF2];omega,fun x=>?_⟩
   ·rw[oA.l5_eq];simp(disch:=omega)only[ss,vE2,hlim];rw[uE2]at h3;exact h3
   ·rcases(h6 y).1 hy with q | q
    ·exact h2 y q
    ·exact lb h y q
   ·rw[pE2,h6,gb h];exact or_left_comm
  rw[head,oA.l3_eq];by_cases c1:j=b.length
  ·have c2:i<a.length:=by omega
   obtain⟨s,h1,h2⟩:=takeA c2 fun x hx=>by rw[c1,jF2]at hx;cases hx
   refine⟨s,?_,h2⟩;simp(disch:=omega)only[ss];exact h1
  ·have c3:j<b.length:=by omega
   by_cases c2:i<a.length
   ·by_cases c4:a.getD i 0<b.getD j 0
    ·obtain⟨s,h1,h2⟩:=takeA c2 fun x hx=>by
      rcases(gb c3 x).1 hx with q | q
      ·omega
      ·have:=lb c3 x q;omega
     refine⟨s,?_,h2⟩;simp(disch:=omega)only[ss];exact h1
    ·by_cases c5:b.getD j 0<a.getD i 0
     ·obtain⟨s,h1,h2⟩:=takeB c3 fun x hx=>by
       rcases(ga c2 x).1 hx with q | q
       ·omega
       ·have:=la c2 x q;omega
      refine⟨s,?_,h2⟩;simp(disch:=omega)only[ss,oA.l4_eq];exact h1
     ·obtain⟨s,h1,h2,h3,h4⟩:=ih (i+1) j acc (by omega) (by omega) hj (by omega);have e:a.getD i 0=b.getD j 0:=by omega
      refine⟨s,?_,h2,by omega,fun x=>?_⟩
      ·simp(disch:=omega)only[ss,oA.l4_eq,oA.l5_eq];exact h1
      ·rw[h4,ga c2,gb c3,e];constructor
       ·rintro(q | q | q)
        ·exact .inl (.inr q)
        ·exact .inl (.inl q)
        ·exact .inr (.inr q)
       ·rintro((q | q) | q | q)
        ·exact .inr (.inl q)
        ·exact .inl q
        ·exact .inr (.inl q)
        ·exact .inr (.inr q)
   ·obtain⟨s,h1,h2⟩:=takeB c3 fun x hx=>by rw[show i=a.length by omega,jF2]at hx;cases hx
    refine⟨s,?_,h2⟩;simp(disch:=omega)only[ss,oA.l4_eq];exact h1
theorem pJ1 (a b:List Int) (ha:a.length≤1000000) (hb:b.length≤1000000) (ra:Rise a) (rb:Rise b):∃s,oA.f a b=some (s,())∧Rise s∧s.length≤a.length+b.length ∧ ∀x,x∈s↔x∈a∨x∈b:=by obtain⟨s,h1,h2,h3,h4⟩:=qU1 a b ha hb ra rb _ 0 0 [] rfl (kE2 _) (kE2 _) (rE2 _);rw[qE2,dF2]at h1;rw[Nat.sub_zero,Nat.sub_zero]at h3;rw[yE2,yE2]at h4;exact⟨s,by rw[oA.f_eq,h1],h2,h3,h4⟩
theorem zY1 (e:Int) (X:List Int) (m:Mt) (hx:m.2.2.2.2.2.2.1.length≤1000000) (hX:X.length≤1000000):∀(k i:Nat) (acc:List Int),X.length-i=k→i≤X.length→acc.length≤i →
  aB.l2 e X (i:Int) m acc=if((acc++(X.drop i).filter (kI m.2.2.2.2.2.2.1 e)).length:Int)>4096 then some ([],10,())else some (acc++(X.drop i).filter (kI m.2.2.2.2.2.2.1 e),0,()):=by
 have hlim:eD=17179869184:=rfl;intro k
 induction k with
 | zero=>
  intro i acc hk hi ha;have q:i=X.length:=by omega
  subst q;rw[aB.l2_eq,jF2,xH2,zE2];by_cases c:(acc.length:Int)>4096
  ·rw[if_pos c];simp(disch:=omega)only[ss]
  ·rw[if_neg c];simp(disch:=omega)only[ss]
 | succ k ih=>
  intro i acc hk hi ha;have hlt:i<X.length:=by omega
  rw[aB.l2_eq,iB 0 hlt,bH2]
  have skip:kI m.2.2.2.2.2.2.1 e (X.getD i 0)=false→aB.l3 e X (i:Int) false m acc=if((acc++(if kI m.2.2.2.2.2.2.1 e (X.getD i 0)=true then X.getD i 0::(X.drop (i+1)).filter (kI m.2.2.2.2.2.2.1 e)else(X.drop (i+1)).filter (kI m.2.2.2.2.2.2.1 e))).length:Int)>4096 then some ([],10,())else some (acc++(if kI m.2.2.2.2.2.2.1 e (X.getD i 0)=true then X.getD i 0::(X.drop (i+1)).filter (kI m.2.2.2.2.2.2.1 e)else(X.drop (i+1)).filter (kI m.2.2.2.2.2.2.1 e)),0,()):=fun q=>by have:=ih (i+1) acc (by omega) (by omega) (by omega);rw[gF2,hF2]at this;rw[q,if_neg (show ¬(false=true)from by simp),aB.l3_eq,←this];simp(disch:=omega)only[ss]
  by_cases c1:X.getD i 0<e
  ·have hh:=bE2 m.2.2.2.2.2.2.1 hx (X.getD i 0);by_cases c2:X.getD i 0∈m.2.2.2.2.2.2.1
   ·have q:kI m.2.2.2.2.2.2.1 e (X.getD i 0)=false:=by unfold kI;rw[dp c2];rfl
    rw[dp c2]at hh;rw[←skip q];simp(disch:=omega)only[ss,hh]
   ·have q:kI m.2.2.2.2.2.2.1 e (X.getD i 0)=true:=by unfold kI;rw[dn c2,dn (show ¬X.getD i 0≥e by omega)];rfl
    rw[dn c2]at hh;have:=ih (i+1) (acc++[X.getD i 0]) (by omega) (by omega) (by rw[jE2,vE2];omega);rw[uE2,List.singleton_append,gF2,hF2]at this;rw[q,if_pos (show true=true from rfl),←this];simp(disch:=omega)only[ss,hh,aB.l3_eq,vE2,hlim]
  ·have q:kI m.2.2.2.2.2.2.1 e (X.getD i 0)=false:=by unfold kI;rw[dp (show X.getD i 0≥e by omega),Bool.or_true];rfl
   rw[←skip q];simp(disch:=omega)only[ss]
theorem kU1 (e:Int) (m:Mt) (hM:mayM m) (l:List Int) (hl:l.length≤4096) (rl:Rise l):aB.l1 e l m=locE l m.2.2.2.2.2.1 m.2.2.2.2.2.2.1 e∧aB.l1a e m l=locE l m.2.2.2.2.2.1 m.2.2.2.2.2.2.1 e:=by
 obtain⟨m1,m2,m3,m4,m5,m6,m7,m8,m9⟩:=hM;have hda:=(lL m6).1;have hex:=(lL m7).1;obtain⟨s,h1,h2,h3,h4⟩:=pJ1 l m.2.2.2.2.2.1 (by omega) (by omega) rl (dR m6);have h5:=zY1 e s m (by omega) (by omega) _ 0 [] rfl (kE2 _) (rE2 _)
 have h6:s.filter (kI m.2.2.2.2.2.2.1 e)=locL l m.2.2.2.2.2.1 m.2.2.2.2.2.2.1 e:=kL (List.Pairwise.filter _ h2) (jC1 _ _ _ _) fun x=>by rw[zF2,h4,iZ];unfold kI;simp
 rw[qE2,yE2,dF2,h6]at h5;rw[aB.l1_eq,aB.l1a_eq,h1];exact⟨h5,h5⟩
theorem hD1 (l da ex:List Int) (e:Int):∃L cd,locE l da ex e=some (L,cd,())∧L.length≤4096:=by
 unfold locE;by_cases c:((locL l da ex e).length:Int)>4096
 ·rw[if_pos c];exact⟨_,_,rfl,kE2 _⟩
 ·rw[if_neg c];exact⟨_,_,rfl,by omega⟩
theorem wY (m:Mt) (hs:mP m) (e:Int):∃L cd,kD.f m e=some (L,cd,())∧aB.f m e=some (L,cd,())∧L.length≤4096:=by
 obtain⟨b,hb,hb2⟩:=qX1 m hs;obtain⟨b',hv,hv2⟩:=mV1 m hs;by_cases hM:mayM m
 ·have hb1:b=true:=hb2.2 hM;have hv1:b'=true:=hv2.2 hM;subst hb1 hv1;have hend:=fun l h1 h2=>kU1 e m hM l h1 h2
  obtain⟨z,st,du,rc,⟨f,iv,ct,un,wk,en,mo,we,yd,md,dy,ho,mi,se,po,⟨⟩⟩,da,ex,⟨⟩⟩:=m;obtain⟨m1,m2,m3,m4,m5,m6,m7,m8,m9⟩:=hM;obtain⟨s1,s2,s3⟩:=hs;dsimp only at s1 s2 s3 m1 m2 m3 m4 m5 m6 m7 m8 m9 hend;have hda:=(lL m6).1;have hex:=(lL m7).1;have hrx:=dR m7;rw[kD.f_eq,hb,aB.f_eq,hv];dsimp only;simp only[hE2,lE2,cond_false]
  cases rc with
  | false=>
   rw[cond_false,cond_false,(qV z st du false f iv ct un wk en mo we yd md dy ho mi se po da ex e hrx (by omega) [st] (by simp) (by omega)).2,(hend [st] (by simp) (by simp[Rise])).2];obtain⟨L,cd,h1,h2⟩:=hD1 [st] da ex e;exact⟨L,cd,h1,h1,h2⟩
  | true=>
   obtain⟨L,cd,h1,h2,h3,_⟩:=eJ1 (f,iv,ct,un,wk,en,mo,we,yd,md,dy,ho,mi,se,po,()) s1 st e 4096 (by omega) (by omega);obtain⟨L',cd',h4,h5,h6⟩:=cL1 (f,iv,ct,un,wk,en,mo,we,yd,md,dy,ho,mi,se,po,()) s1 st e 4096;obtain⟨rfl,rfl⟩:L=L'∧cd=cd':=by rw[h1]at h4;have:=oF2 h4;exact⟨congrArg Prod.fst this,congrArg (fun x=>x.2.1) this⟩
   rw[cond_true,cond_true,h1,h5];simp only[hE2];by_cases c:cd=0
   ·obtain⟨_,g2,g3,g4⟩:=h3 c;have hrL:Rise L:=by rw[g3];exact sW1 _ _ _
    rw[dp c,lE2,cond_false,cond_false,(qV z st du true f iv ct un wk en mo we yd md dy ho mi se po da ex e hrx (by omega) L (by omega) (by omega)).1,(hend L h6 hrL).1];obtain⟨L',cd',q1,q2⟩:=hD1 L da ex e;exact⟨L',cd',q1,q1,q2⟩
   ·rw[dn c,eF2,cond_true,cond_true];exact⟨_,_,rfl,rfl,kE2 _⟩
 ·have hb1:b=false:=by
   cases b with
   | true=>exact absurd (hb2.1 rfl) hM
   | false=>rfl
  have hv1:b'=false:=by
   cases b' with
   | true=>exact absurd (hv2.1 rfl) hM
   | false=>rfl
  rw[kD.f_eq,hb,hb1,aB.f_eq,hv,hv1];exact⟨[],1,rfl,rfl,kE2 _⟩
end Go.GV.YtegmfagkklekaaaGreatDoor
