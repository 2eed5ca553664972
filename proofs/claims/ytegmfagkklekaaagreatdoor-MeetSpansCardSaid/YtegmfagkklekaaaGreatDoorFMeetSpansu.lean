/-
Part of the words that MeetSpans is proved with: no statement of its own, no conditions.
-/
import Derived.Test.YtegmfagkklekaaaGreatDoorFMeetSpanst
set_option linter.unusedVariables false
set_option linter.unusedSimpArgs false
namespace Go.GV.YtegmfagkklekaaaGreatDoor
open Go.Proofs
def fl (s:Sp):Bool:=decide (s.2.1>s.1)
theorem sT1 (x0:List Sp) (i:Nat) (hi:i<x0.length) (hx:x0.length≤1000000) (y0:List Sp) (hy:y0.length≤1000000):∀k:Nat,k≤y0.length →
  ∃k':Nat,k'≤k∧pA.l2 x0 i k y0=pA.l4 x0 i k' y0∧(∀j,k'≤j→j<k→(x0.getD i (0,0,())).1<(y0.getD j (0,0,())).1)∧(k'=0∨(y0.getD (k'-1) (0,0,())).1≤(x0.getD i (0,0,())).1):=by
 intro k
 induction k with
 | zero=>
  intro _;refine⟨0,rE2 _,?_,fun j h1 h2=>by omega,.inl rfl⟩;rw[pA.l2_eq];simp(disch:=omega)only[ss,pA.l3_eq,qE2]
 | succ k ih=>
  intro hk;rw[pA.l2_eq];simp(disch:=omega)only[ss,pA.l3_eq,gF2,hF2,Int.add_sub_cancel];by_cases hc:(y0.getD k (0,0,())).1>(x0.getD i (0,0,())).1
  ·simp(disch:=omega)only[ss];obtain⟨k',h1,h2,h3,h4⟩:=ih (by omega);refine⟨k',by omega,h2,fun j hj1 hj2=>?_,h4⟩;by_cases hjk:j=k
   ·subst hjk;exact hc
   ·exact h3 j hj1 (by omega)
  ·simp(disch:=omega)only[ss];exact⟨k+1,rE2 _,rfl,fun j h1 h2=>by omega,.inr (by rw[Nat.add_sub_cancel];omega)⟩
theorem yR1 (x0:List Sp) (hx:x0.length≤1000000):∀(k i:Nat) (y0:List Sp),x0.length-i=k→i≤x0.length→y0.length≤i→y0.Pairwise (fun a b=>a.1≤b.1) →
  ∃r,pA.l1 x0 i y0=pA.l5 0 r []∧r.Perm (y0++(x0.drop i).filter fl)∧r.Pairwise (fun a b=>a.1≤b.1):=by
 have hlim:eD=17179869184:=rfl;intro k
 induction k with
 | zero=>
  intro i y0 hk hi hy hs;have e:i=x0.length:=by omega
  subst e;refine⟨y0,?_,by simp,hs⟩;rw[pA.l1_eq];simp(disch:=omega)only[ss]
 | succ k ih=>
  intro i y0 hk hi hy hs;have hlt:i<x0.length:=by omega
  have hse:∀s:Sp,(s.1,s.2.1,())=s:=fun s=>rfl
  rw[pA.l1_eq,iB (0,0,()) hlt];simp(disch:=omega)only[ss,bH2];by_cases hc:(x0.getD i (0,0,())).2.1≤(x0.getD i (0,0,())).1
  ·have hf:fl (x0.getD i (0,0,()))=false:=dn (by omega);simp(disch:=omega)only[ss,hf,pF2,if_false];obtain⟨r,h1,h2,h3⟩:=ih (i+1) y0 (by omega) (by omega) (by omega) hs;exact⟨r,h1,h2,h3⟩
  ·have hf:fl (x0.getD i (0,0,()))=true:=dp (by omega);simp(disch:=omega)only[ss,hf,if_true];obtain⟨q,h1,h2,h3,h4⟩:=sT1 x0 i hlt hx y0 (by omega) y0.length (rE2 _);obtain⟨h5,h6⟩:=jO1 (fun s:Sp=>s.1) hs (x0.getD i (0,0,())).1 (0,0,()) h1 h3 h4;rw[h2,pA.l4_eq];simp(disch:=omega)only[ss,hse,hlim,vE2,jE2,fF2,fG2];have hp:=vS1 y0 (x0.getD i (0,0,())) q;obtain⟨r,h7,h8,h9⟩:=ih (i+1) (y0.take q++([x0.getD i (0,0,())]++y0.drop q)) (by omega) (by omega) (by rw[hp.length_eq];simp;omega) (kL1 hs h5 fun a ha=>Int.le_of_lt (h6 a ha));refine⟨r,h7,h8.trans ?_,h9⟩;refine(hp.append_right _).trans ?_;rw[fH2];exact List.perm_middle.symm
theorem eU1 (inn:List Sp) (hl:inn.length≤1000000):∀(k i:Nat) (out:List Sp),inn.length-i=k→i≤inn.length→out.length≤i →
  pA.l5 i inn out=some ((inn.drop i).foldl push out,()):=by
 have hlim:eD=17179869184:=rfl;intro k
 induction k with
 | zero=>
  intro i out hk hi ho;have e:i=inn.length:=by omega
  subst e;rw[pA.l5_eq];simp(disch:=omega)only[ss,jF2,List.foldl_nil]
 | succ k ih=>
  intro i out hk hi ho;have hlt:i<inn.length:=by omega
  have hs:∀s:Sp,(s.1,s.2.1,())=s:=fun s=>rfl
  rw[pA.l5_eq,iB (0,0,()) hlt,iH2];have hpl:=sA1 out (inn.getD i (0,0,()));rw[←ih (i+1) (push out (inn.getD i (0,0,()))) (by omega) (by omega) (by omega)];rcases fO out with rfl | ⟨o,p,rfl⟩
  ·rw[pZ];simp(disch:=omega)only[ss,lG2,qE2,pA.l6_eq,vE2,dF2,hs,hlim];rfl
  ·rw[nG]at ho;rw[rQ];simp(disch:=omega)only[ss,nG,gF2,hF2,Int.add_sub_cancel,pA.l6_eq,vE2,hs,vD1,eI1,hlim];by_cases hc:(inn.getD i (0,0,())).1≤p.2.1
   ·simp(disch:=omega)only[ss,if_pos hc]
   ·simp(disch:=omega)only[ss,if_neg hc]
theorem uJ1 (l:List Sp) (hl:l.length≤1000000):∃r,pA.f l=some (r,())∧nrm r∧(∀t,cov r t↔cov l t)∧r.length≤l.length:=by
 have hfl:(l.filter fl).length≤l.length:=List.length_filter_le _ _;obtain⟨r,h1,h2,h3⟩:=yR1 l hl _ 0 [] rfl (kE2 _) (rE2 _) List.Pairwise.nil;rw[dF2,yE2]at h2;have hrl:r.length=(l.filter fl).length:=h2.length_eq
 have hne:∀s∈r,s.1<s.2.1:=fun s hs=>by have:=(zF2.1 (h2.mem_iff.1 hs)).2;exact of_decide_eq_true this
 obtain⟨h4,h5⟩:=sZ r [] hne h3 ⟨List.Pairwise.nil,fun s h=>by cases h⟩ fun s _ a h=>by cases h
 refine⟨r.foldl push [],?_,h4,fun t=>?_,?_⟩
 ·rw[pA.f_eq];rw[show((0:Nat):Int)=0 from rfl]at h1;rw[h1];have:=eU1 r (by omega) _ 0 [] rfl (kE2 _) (rE2 _);rw[yE2,show((0:Nat):Int)=0 from rfl]at this;exact this
 ·rw[h5,gI1 h2];constructor
  ·rintro(h | ⟨s,h,h6⟩)
   ·exact absurd h (nN t)
   ·exact⟨s,(zF2.1 h).1,h6⟩
  ·rintro⟨s,h,h6⟩;exact .inr ⟨s,zF2.2 ⟨h,dp (by omega)⟩,h6⟩
 ·have:=gJ1 r [];simp at this;omega
theorem uN1 (zs:List Zn) (hi cd:Int) (L:List Int) (U:Int→Int) (m:Mt) (hz:0≤m.1∧m.1<(zs.length:Int)) (hl:L.length≤1000000) (hd:0≤m.2.2.1∧m.2.2.1≤2678400) (hU:∀t∈L,vC.f (zs.getD m.1.toNat zZ) t=some (U t,()) ∧ -500000000000≤U t∧U t≤500000000000):∀(k i:Nat) (acc:List Sp),L.length-i=k→i≤L.length→acc.length≤i →
  xB.l2 zs hi L cd (i:Int) m acc=(pA.f (acc++spF U m.2.2.1 hi (L.drop i))).bind fun t7=>some (t7.1,cd,()):=by
 have hlim:eD=17179869184:=rfl;intro k
 induction k with
 | zero=>
  intro i acc hk hi' ha;have e:i=L.length:=by omega
  subst e;rw[xB.l2_eq,jF2];simp(disch:=omega)only[ss,show spF U m.2.2.1 hi []=[]from rfl,zE2]
 | succ k ih=>
  intro i acc hk hi' ha;have hlt:i<L.length:=by omega
  obtain⟨u1,u2,u3⟩:=hU (L.getD i 0) (cW 0 hlt)
  have hst:spF U m.2.2.1 hi (L.drop i)=(if U (L.getD i 0)<hi then [(U (L.getD i 0),U (L.getD i 0)+m.2.2.1,())]else [])++spF U m.2.2.1 hi (L.drop (i+1)):=by
   rw[iB 0 hlt];unfold spF;rw[bH2];by_cases c:U (L.getD i 0)<hi
   ·rw[dp c,if_pos rfl,if_pos c];rfl
   ·rw[dn c,if_neg (by simp),if_neg c];rfl
  rw[xB.l2_eq,hst];simp(disch:=omega)only[ss,u1];by_cases c:U (L.getD i 0)<hi
  ·simp(disch:=omega)only[ss,if_pos c,vE2,hlim];have:=ih (i+1) (acc++[(U (L.getD i 0),U (L.getD i 0)+m.2.2.1,())]) (by omega) (by omega) (by simp;omega);rw[uE2]at this;exact this
  ·simp(disch:=omega)only[ss,if_neg c,dF2];exact ih (i+1) acc (by omega) (by omega) (by omega)
theorem zK1 (m:Mt) (hs:mP m) (zs:List Zn) (hzs:∀z∈zs,z.2.1.length≤400) (hi:Int):∃S cd,nC.f m zs hi=some (S,cd,())∧xB.f m zs hi=some (S,cd,())∧S.length≤1000000:=by
 have bad:∃S cd,nC.l1 zs hi true m=some (S,cd,())∧xB.l1 zs hi true m=some (S,cd,())∧S.length≤1000000:=⟨[],1,by rw[nC.l1_eq,cond_true],by rw[xB.l1_eq,cond_true],kE2 _⟩
 have y3:=iO 3 1 1 0 0 0 (by decide) (by omega) (by omega) (by omega);have y7:=iO 9997 12 31 23 59 59 (by decide) (by omega) (by omega) (by omega);rw[show(fst_ 3+1-1+cum 3 1)*86400+0*3600+0*60+0 = -62072524800 by decide]at y3;rw[show(fst_ 9997+31-1+cum 9997 12)*86400+23*3600+59*60+59=253339228799 by decide]at y7;obtain⟨b,hb,hb2⟩:=qX1 m hs;obtain⟨b',hv,hv2⟩:=mV1 m hs;have hbb:b'=b:=by
  cases b with
  | true=>exact hv2.2 (hb2.1 rfl)
  | false=>
   cases b' with
   | true=>exact absurd (hb2.2 (hv2.1 rfl)) (by simp)
   | false=>rfl
 subst hbb;rw[nC.f_eq,hb,xB.f_eq,hv,y3,y7];simp only[hE2]
 cases b' with
 | false=>rw[eF2,cond_true,cond_true];exact bad
 | true=>
 have hM:=hb2.1 rfl;have hM0:=hM;obtain⟨m1,m2,m3,m4,m5,m6,m7,m8,m9⟩:=hM;rw[lE2,cond_false,cond_false];by_cases c1:m.1≥(zs.length:Int)
 ·rw[dp c1,cond_true,cond_true];exact bad
 rw[dn c1,cond_false,cond_false,dp m1,cond_true,cond_true,dp (show m.1<(zs.length:Int) by omega),cond_true,cond_true];have hzin:zs.getD m.1.toNat zZ∈zs:=cW zZ (by omega);have hz4:=hzs _ hzin;obtain⟨d,hd,hd2⟩:=hR1 (zs.getD m.1.toNat zZ) (by omega);obtain⟨d',hw,hw2⟩:=uX (zs.getD m.1.toNat zZ) (by omega);have hdd:d'=d:=by
  cases d with
  | true=>exact hw2.2 (hd2.1 rfl)
  | false=>
   cases d' with
   | true=>exact absurd (hd2.2 (hw2.1 rfl)) (by simp)
   | false=>rfl
 subst hdd;have hd':rD.f (zs.getD m.1.toNat (0,[],[],0,()))=some (d',()):=hd;have hw':gA.f (zs.getD m.1.toNat (0,[],[],0,()))=some (d',()):=hw;rw[hd',hw'];simp only[hE2]
 cases d' with
 | false=>rw[eF2,cond_true,cond_true];exact bad
 | true=>
 have hz:=hd2.1 rfl;rw[lE2,cond_false,cond_false,hB2];simp only[hE2];by_cases c2:hi < -62072524800
 ·rw[dp c2,cond_true,cond_true];exact bad
 rw[dn c2,cond_false,cond_false,iA2];simp only[hE2];by_cases c3:hi≥253339228800
 ·rw[dp c3,dp (show hi>253339228799 by omega)];exact bad
 rw[dn c3,dn (show ¬hi>253339228799 by omega),nC.l1_eq,xB.l1_eq,cond_false,cond_false,wr (by omega) (by omega)];obtain⟨L,cd,h1,h2,h3,_⟩:=aO1 m hs (hi+172800);obtain⟨L',cd',h1',hvl,h5⟩:=wY m hs (hi+172800);obtain⟨rfl,rfl⟩:L=L'∧cd=cd':=by rw[h1]at h1';have:=oF2 h1';exact⟨congrArg Prod.fst this,congrArg (fun x=>x.2.1) this⟩
 rw[h1,hvl];simp only[hE2];by_cases c:cd=0
 ·obtain⟨_,g2,g3,_⟩:=h3 c;subst c;rw[dp rfl,lE2,cond_false,cond_false];subst g2
  have hU:okU (zs.getD m.1.toNat zZ) (utcF (zs.getD m.1.toNat zZ)) (allL m (hi+172800)):=fun t ht=>by have hm:=jJ1.1 ht;have hb:=qL1 hM0 hm.1;have hu:=pS1 _ hz hd t ⟨hb.1,by omega⟩;exact⟨hu.1,by omega,by omega⟩
  have hU':∀t∈allL m (hi+172800),vC.f (zs.getD m.1.toNat zZ) t=some (utcF (zs.getD m.1.toNat zZ) t,()) ∧ -500000000000≤utcF (zs.getD m.1.toNat zZ) t∧utcF (zs.getD m.1.toNat zZ) t≤500000000000:=fun t ht=>by have hm:=jJ1.1 ht;have hb:=qL1 hM0 hm.1;exact⟨oR1 hz hd t ⟨hb.1,by omega⟩,(hU t ht).2⟩
  obtain⟨r,r1,r2,r3⟩:=tD1 zs hi (allL m (hi+172800)) (utcF (zs.getD m.1.toNat zZ)) m ⟨m1,by omega⟩ (by omega) ⟨by omega,m5⟩ hU;have v3:=uN1 zs hi 0 (allL m (hi+172800)) (utcF (zs.getD m.1.toNat zZ)) m ⟨m1,by omega⟩ (by omega) ⟨by omega,m5⟩ hU' _ 0 [] rfl (kE2 _) (rE2 _);have hsl:=yP1 (utcF (zs.getD m.1.toNat zZ)) m.2.2.1 hi (allL m (hi+172800));rw[qE2,yE2,dF2]at v3;obtain⟨q,q1,q2,q3,q4⟩:=uJ1 (spF (utcF (zs.getD m.1.toNat zZ)) m.2.2.1 hi (allL m (hi+172800))) (by omega)
  have hne:∀s∈r,s.1<s.2.1:=fun s hs=>by obtain⟨t,_,_,rfl⟩:=aN1.1 (r1.mem_iff.1 hs);dsimp only;omega
  obtain⟨n1,n2⟩:=sZ r [] hne r2 ⟨List.Pairwise.nil,fun s h=>by cases h⟩ fun s _ a h=>by cases h
  have he:r.foldl push []=q:=lI1 n1 q2 fun t=>by rw[n2,gI1 r1,q3];exact⟨fun h=>h.elim (fun h=>absurd h (nN t)) id,.inr⟩
  rw[q1]at v3;rw[he]at r3;exact⟨q,0,r3,v3,by omega⟩
 ·rw[dn c,eF2,cond_true,cond_true];exact⟨_,_,rfl,rfl,kE2 _⟩
theorem pK1 (m:Mt) (hs:mP m):lI.f m m=some (true,()):=by obtain⟨h1,h2,h3⟩:=hs;rw[lI.f_eq,oK1 _ h1,rH _ h2,rH _ h3];simp(disch:=omega)only[ss,beq_self_eq_true]
theorem dM1 (m:Mt) (hs:mP m):dG.f m=some (m,()):=by obtain⟨h1,h2,h3⟩:=hs;rw[dG.f_eq,sO1 _ h1,uH _ h2,uH _ h3];rfl
theorem aX (m:Mt) (zs:List Zn) (hi e:Int) (ok:(c5).par.T.Ok (m,zs,hi,e,())):gC.f m zs hi e=some (true,()):=by
 have l1t:gC.l1 zs hi e true m=some (true,()):=by rw[gC.l1_eq,cond_true,rR];rfl
 have hzl:zs.length≤9223372036854775807:=ok.2.1.1;obtain⟨b,hb,hsm⟩:=cC2 m;obtain⟨d,hd,hzs⟩:=fewz zs hzl;rw[gC.f_eq,rR,hb];simp only[hE2,lE2,cond_false]
 cases b with
 | false=>rw[eF2,cond_true,l1t]
 | true=>
 rw[lE2,cond_false,hd];simp only[hE2]
 cases d with
 | false=>rw[eF2,cond_true,l1t]
 | true=>
 have hs:=hsm rfl;obtain⟨g,hg⟩:=rQ1 m hs hi;rw[lE2,cond_false,hg];simp only[hE2]
 cases g with
 | false=>rw[eF2,cond_true,l1t]
 | true=>
 obtain⟨k,hk⟩:=rQ1 m hs e;rw[lE2,cond_false,hk];simp only[hE2]
 cases k with
 | false=>rw[eF2,l1t]
 | true=>
 obtain⟨L,cl,a1,a2,a3⟩:=wY m hs e;obtain⟨S,cs,b1,b2,b3⟩:=zK1 m hs zs (fun z hz=>(hzs rfl).2 z hz) hi;have hself:=pK1 m hs;rw[lE2,gC.l1_eq,cond_false,dM1 m hs];simp only[hE2];rw[a1,a2,b1,b2,rR];simp only[hE2,cond_true];rw[rH L (by omega),fH1 S S b3,hself];simp only[hE2,cond_true,decide_true]
end Go.GV.YtegmfagkklekaaaGreatDoor
