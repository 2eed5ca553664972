/-
Part of the words that ExpandLists is proved with: no statement of its own, no conditions.
-/
import Derived.Test.YtegmfagkklekaaaGreatDoorFExpandListsq
set_option linter.unusedVariables false
set_option linter.unusedSimpArgs false
namespace Go.GV.YtegmfagkklekaaaGreatDoor
open Go.Proofs
abbrev clA (K:Int) (l:List Int):(List Int×Unit)×(Int×Unit)×Unit:=((l,()),(K,()),())
abbrev yA :=yesF
def invA (K:Int) (l:List Int):Prop:=(l.length:Int)<K∧K≤100000
theorem yesA {K:Int} {l:List Int} (hi:invA K l) (x:Int):kG.f x (l,()) (K,())=some ((yA K l x).2,((yA K l x).1,()),(K,()),())∧((yA K l x).2=true→invA K (yA K l x).1):=by
 unfold invA at hi ⊢;have hlim:eD=17179869184:=rfl;constructor
 ·rw[kG.f_eq];simp(disch:=omega)only[ss,mW1,hlim];rfl
 ·intro h;exact⟨of_decide_eq_true h,hi.2⟩
section
variable {K fr en : Int}
theorem nN1 {L:List Int} (hl:L.length≤1000000):∀(n i:Nat),L.length-i=n→i≤L.length → ∀s:List Int,invA K s →
  ∃s' b,run (yA K) s ((L.drop i).filter (inW fr en))=(s',b)∧(b=true→invA K s')∧qA.l1 L (L.length:Int) (i:Int) fr en K s=some (b,(fr,()),(en,()),(clA K s',()),()):=by
 intro n
 induction n with
 | zero=>
  intro i hn hi s hs;have e:i=L.length:=by omega
  subst e;refine⟨s,true,by rw[iW1];rfl,fun _=>hs,?_⟩;rw[qA.l1_eq];simp(disch:=omega)only[ss]
 | succ n ih=>
  intro i hn hi s hs;have hlt:i<L.length:=by omega
  have ih':=ih (i+1) (by omega) (by omega);rw[pV1,qV1]at ih';rw[qA.l1_eq,xV1,tB 0 hlt];generalize L.getD i 0=x;by_cases c:fr≤x∧x<en
  ·have hin:inW fr en x=true:=by unfold inW;rw[dp c.1,dp c.2];rfl
   rw[List.filter_cons_of_pos hin,yL];obtain⟨hy,hinv⟩:=yesA hs x
   cases hb:(yA K s x).2 with
   | true=>
    obtain⟨s',b,h1,h2,h3⟩:=ih' _ (hinv hb);refine⟨s',b,by rw[if_pos rfl];exact h1,h2,?_⟩;simp(disch:=omega)only[ss,hy,hb,qA.l2_eq];exact h3
   | false=>
    refine⟨_,false,by rw[if_neg (by simp)],(fun q=>by cases q),?_⟩;simp(disch:=omega)only[ss,hy,hb,qA.l2_eq]
  ·have hin:inW fr en x=false:=by
    cases q:inW fr en x with
    | false=>rfl
    | true=>
     unfold inW at q;rw[dV1,decide_eq_true_eq,decide_eq_true_eq]at q;exact absurd q c
   rw[jY1 (by rw[hin];simp)];obtain⟨s',b,h1,h2,h3⟩:=ih' s hs;refine⟨s',b,h1,h2,?_⟩;by_cases c1:fr≤x
   ·simp(disch:=omega)only[ss,qA.l2_eq];exact h3
   ·simp(disch:=omega)only[ss,qA.l2_eq];exact h3
theorem jJ1 {L:List Int} (hl:L.length≤1000000) (s:List Int) (hs:invA K s):
  ∃s' b,run (yA K) s (L.filter (inW fr en))=(s',b)∧(b=true→invA K s')∧qA.f L (fr,()) (en,()) (clA K s,())=some (b,(fr,()),(en,()),(clA K s',()),()):=by
 have h:=nN1 (fr:=fr) (en:=en) hl L.length 0 (by omega) (hV1 _) s hs;rw[oV1,fW1]at h;rw[qA.f_eq];exact h
theorem nL {s s1 s2:List Int} {a b c:List Int} {q:Bool} (e:a++b=c) (h1:run (yA K) s a=(s1,true)) (h2:run (yA K) s1 b=(s2,q)):run (yA K) s c=(s2,q):=by rw[←e,yS,h1,if_pos rfl,h2]
theorem pJ {s s1:List Int} {a b c:List Int} (e:a++b=c) (h1:run (yA K) s a=(s1,false)):run (yA K) s c=(s1,false):=by rw[←e,yS,h1,if_neg (by simp)]
end
section
variable {P : PlT} {r : Rl} {s0 : Int} {F : Int → Bool} {pr : Int → Int} {h m c : List Int} (hP : PlanOK P r s0 F pr h m c) {K fr en : Int} (hfr : -63000000000 ≤ fr ∧ fr ≤ 300000000000) (hen : -63000000000 ≤ en ∧ en ≤ 300000000000)
include hP
theorem aQ1 (W:Int→Prop) (A B hi E:Int) (hE:mm false B hi=E) (hEB:E≤B) (hA: -719162≤A) (hB:B≤2932896)
  (hday:∀d,A≤d→d≤B→F d=true→(dayL h m c 0 86400 d).filter (inW fr en)=memC W fr en (d*86400) ((d+1)*86400)) (hno:∀d,A≤d→d≤B→F d=false→memC W fr en (d*86400) ((d+1)*86400)=[]):
  ∀(n:Nat) (d:Int),(E+1-d).toNat=n→A≤d → ∀s:List Int,invA K s →
  ∃s' b,run (yA K) s (memC W fr en (d*86400) ((E+1)*86400))=(s',b)∧(b=true→invA K s')∧eB.l1 B hi d fr en K s P=some (b,((fr,()),(en,()),(clA K s',()),()),()):=by
 intro n
 induction n with
 | zero=>
  intro d hn hd s hs;refine⟨s,true,by rw[yC W fr en (fun x _ _ h1 h2=>by omega)];rfl,fun _=>hs,?_⟩;rw[eB.l1_eq,hE,dn (show ¬d≤E by omega),cond_false]
 | succ n ih=>
  intro d hn hd s hs;have hdE:d≤E:=by omega
  have hw:w6 (d+1)=d+1:=wr (by omega) (by omega);have hsp:=jI W fr en (a:=d*86400) (b:=(d+1)*86400) (c:=(E+1)*86400) (by omega) (by omega);rw[eB.l1_eq,hE,dp hdE,cond_true,fC.f_eq,hP.fits d];simp only[cV1]
  cases hF:F d with
  | false=>
   rw[hno d hd (by omega) hF,uV1]at hsp;obtain⟨s',b,h1,h2,h3⟩:=ih (d+1) (by omega) (by omega) s hs;refine⟨s',b,by rw[←hsp];exact h1,h2,?_⟩;rw[cond_false,eB.l2_eq,cond_false,hw];exact h3
  | true=>
   have hdv:=hB1 0 86400 d P 100000 (by omega) (by omega) (by omega) (by omega) (by rw[hP.eh];exact hP.oh) (by rw[hP.em];exact hP.om) (by rw[hP.ec];exact hP.oc);rw[hP.eh,hP.em,hP.ec,show((100000:Nat):Int)=100000 from rfl,lV1 (yW1 (qQ hP.oh hP.om hP.oc 0 86400 d) (by decide))]at hdv;obtain⟨s1,b1,g1,g2,g3⟩:=jJ1 (K:=K) (fr:=fr) (en:=en) (L:=dayL h m c 0 86400 d) (yW1 (qQ hP.oh hP.om hP.oc 0 86400 d) (by decide)) s hs;rw[hday d hd (by omega) hF]at g1;rw[cond_true,hdv];simp only[cV1];rw[g3];simp only[cV1]
   cases b1 with
   | false=>
    refine⟨s1,false,pJ hsp g1,(fun q=>by cases q),?_⟩;rw[eB.l2_eq,qW1,cond_true]
   | true=>
    obtain⟨s',b,h1,h2,h3⟩:=ih (d+1) (by omega) (by omega) s1 (g2 rfl);refine⟨s',b,nL hsp g1 h1,h2,?_⟩;rw[eB.l2_eq,jV1,cond_false,hw];exact h3
include hfr hen
theorem perA (t A B:Int) (ht:inT t) (hA: -719162≤A) (hB:B≤2932896) (hAB:A≤t/86400∧t/86400≤B) (hp:∀x,inT x→(pr x=pr t↔A≤x/86400∧x/86400≤B)) (hin:inP r.2.1 s0 pr t) (s:List Int) (hs:invA K s):
  ∃s' b,run (yA K) s (memC (picP r.2.1 r.2.2.2.2.2.2.2.2.2.2.2.2.2.2.1 s0 F pr h m c) fr en (A*86400) ((B+1)*86400))=(s',b)∧(b=true→invA K s') ∧
   eB.f P t A B fr en ((fr,()),(en,()),(clA K s,()),())=some (b,((fr,()),(en,()),(clA K s',()),()),()):=by
 have hpp:∀x y,inT x→inT y→A*86400≤x→x<(B+1)*86400→(pr y=pr x↔A*86400≤y∧y<(B+1)*86400):=fun x y hx hy h1 h2=>by rw[(hp x hx).2 (by omega),hp y hy];constructor <;> intro q <;> omega
 rw[eB.f_eq,hP.er];have hpv:=fun L hr hl=>xL hP (L:=L) hr hl
 have hpm:=fun G (hG:Rise G) (hm:∀x,x∈G↔rawP r.2.1 s0 F pr h m c x∧A*86400≤x∧x<(B+1)*86400) hlen=>wN (po:=r.2.2.2.2.2.2.2.2.2.2.2.2.2.2.1) hG hm hpp hlen
 generalize r.2.2.2.2.2.2.2.2.2.2.2.2.2.2.1=po at hpv hpm ⊢;by_cases cp:po=[]
 ·have hd1:=(oD fr (by omega) (by omega)).1;have hd2:=(oD en (by omega) (by omega)).1;obtain⟨E,hE⟩:∃E,mm false B (en/86400)=E:=⟨_,rfl⟩
  obtain⟨D,hD⟩:∃D,mm true A (fr/86400)=D:=⟨_,rfl⟩
  have hE':=hE;have hD':=hD;rw[xT]at hE';rw[kZ]at hD';have hraw:∀x,picP r.2.1 po s0 F pr h m c x↔rawP r.2.1 s0 F pr h m c x:=fun x=>⟨fun q=>q.1,fun q=>⟨q,.inl cp⟩⟩
  have hl:=aQ1 hP (K:=K) (picP r.2.1 po s0 F pr h m c) A B (en/86400) E hE (by omega) hA hB
   (fun d h1 h2 hF=>gJ _ fr en (dO hP.oh.1 hP.om.1 hP.oc.1 hP.om.2.1 hP.oc.2.1 0 86400 d) fun x=>by
    rw[eM hP.oh.2.1 hP.om.2.1 hP.oc.2.1,hraw];constructor
    ·rintro⟨q1,q2,q3,q4⟩;have hx:inT x:=by unfold inT;omega
     refine⟨⟨hx,q2,?_,by rw[q1];exact hF⟩,by omega,by omega⟩;unfold inP at hin ⊢;rw[(hp x hx).2 (by omega)];exact hin
    ·rintro⟨q,q1,q2⟩
     exact⟨by omega,q.2.1,by omega,by omega⟩)
   (fun d h1 h2 hF=>yC _ fr en fun x _ _ q1 q2 q=>by
    have q:=((hraw x).1 q).2.2.2;rw[show x/86400=d by omega,hF]at q
    cases q) (E+1-D).toNat D rfl (by omega) s hs
  obtain⟨s',b,h1,h2,h3⟩:=hl
  have e:memC (picP r.2.1 po s0 F pr h m c) fr en (A*86400) ((B+1)*86400)=memC (picP r.2.1 po s0 F pr h m c) fr en (D*86400) ((E+1)*86400):=sF _ fr en fun x q1 q2=>by
   constructor
   ·rintro⟨q,q3,q4⟩;exact⟨q,by omega,by omega⟩
   ·rintro⟨q,q3,q4⟩;exact⟨q,by omega,by omega⟩
  refine⟨s',b,by rw[e];exact h1,h2,?_⟩;rw[dn (show ¬(po.length:Int)>0 by rw[cp];simp),cond_false,hd1,hd2];simp only[cV1];rw[hD];exact h3
 ·have hpos:=lE.1 cp;obtain⟨G,G1,G2,G3⟩:=qG1 hP t ht;have g:=G3 100000 (by omega);rw[show((100000:Nat):Int)=100000 from rfl]at g;have hlen:(G.take (100000+1)).length≤1000000:=by rw[aW1];omega
  have hm:∀x,x∈G↔rawP r.2.1 s0 F pr h m c x∧A*86400≤x∧x<(B+1)*86400:=fun x=>by
   rw[G2];constructor
   ·rintro⟨q,q1⟩;have:=(hp x q.1).1 q1;exact⟨q,by omega,by omega⟩
   ·rintro⟨q,q1⟩;exact⟨q,(hp x q.1).2 (by omega)⟩
  have hpk:=hpv _ (cN G1 (100000+1)) hlen;have hlp:(fM po (G.take (100000+1))).length≤1000000:=yW1 (iN po _) hlen;obtain⟨s',b,h1,h2,h3⟩:=jJ1 (K:=K) (fr:=fr) (en:=en) hlp s hs;rw[gJ _ fr en (oL (cN G1 (100000+1))) (hpm G G1 hm (fun q=>absurd q cp))]at h1;refine⟨s',b,h1,h2,?_⟩;rw[dp hpos,cond_true,g];simp only[cV1];rw[hpk];simp only[cV1];rw[h3];rfl
theorem xM1 (hf:r.1≤4) (hs0:s0≤fr) (hen2:en≤253402300800):∀(n:Nat) (t:Int),(en-t).toNat≤n→fr≤t→(t<en → ∀x,inT x→fr≤x→x<t→pr x≠pr t) → ∀s:List Int,invA K s →
  ∃s' b,run (yA K) s (memC (picP r.2.1 r.2.2.2.2.2.2.2.2.2.2.2.2.2.2.1 s0 F pr h m c) fr en t en)=(s',b)∧zA.l1 fr en t fr en K s P=some (((fr,()),(en,()),(clA K s',()),()),()):=by
 have hstop:∀t:Int,¬t<en → ∀s:List Int,invA K s → ∃s' b,run (yA K) s (memC (picP r.2.1 r.2.2.2.2.2.2.2.2.2.2.2.2.2.2.1 s0 F pr h m c) fr en t en)=(s',b)∧zA.l1 fr en t fr en K s P=some (((fr,()),(en,()),(clA K s',()),()),()):=fun t c s hs=>by refine⟨s,true,by rw[yC _ fr en (fun x _ _ h1 h2=>by omega)];rfl,?_⟩;rw[zA.l1_eq,dn c,cond_false]
 intro n
 induction n with
 | zero=>
  intro t hn ht hI s hs;exact hstop t (by omega) s hs
 | succ n ih=>
  intro t hn ht hI s hs;by_cases cT:t<en
  ·have hS:=hP.inS;have htT:inT t:=by unfold inT at hS ⊢;omega
   obtain⟨A,B,g1,g2,g3,_⟩:=hP.days t htT;have hp:=g3 hf;have hw1:w6 (B+1)=B+1:=wr (by omega) (by omega);have hw2:w6 ((B+1)*86400)=(B+1)*86400:=wr (by omega) (by omega)
   have hI':(B+1)*86400<en → ∀x,inT x→fr≤x→x<(B+1)*86400→pr x≠pr ((B+1)*86400):=fun q x hx h1 h2 e=>by
    have hT':inT ((B+1)*86400):=by unfold inT at hS ⊢;omega
    have hy:inT (B*86400):=by unfold inT;omega
    by_cases cx:x≤B*86400
    ·have e1:=hP.mono x _ hx hy cx;have e2:=hP.mono _ _ hy hT' (by omega);have e3:=(hp _ hy).2 ⟨by omega,by omega⟩;have:=(hp _ hT').1 (by omega);omega
    ·have e3:=(hp x hx).2 ⟨by omega,by omega⟩;have:=(hp _ hT').1 (by omega);omega
   have ih':=ih ((B+1)*86400) (by omega) (by omega) hI';have hsp:=jI (picP r.2.1 r.2.2.2.2.2.2.2.2.2.2.2.2.2.2.1 s0 F pr h m c) fr en (a:=t) (b:=(B+1)*86400) (c:=if(B+1)*86400≤en then en else(B+1)*86400) (by omega) (by split <;> omega)
   have hlast:memC (picP r.2.1 r.2.2.2.2.2.2.2.2.2.2.2.2.2.2.1 s0 F pr h m c) fr en t (if(B+1)*86400≤en then en else(B+1)*86400)=memC (picP r.2.1 r.2.2.2.2.2.2.2.2.2.2.2.2.2.2.1 s0 F pr h m c) fr en t en:=sF _ fr en fun x q1 q2=>by
    split
    ·exact Iff.rfl
    ·exact⟨fun q=>⟨q.1,q.2.1,by omega⟩,fun q=>⟨q.1,q.2.1,by omega⟩⟩
   have hnext:memC (picP r.2.1 r.2.2.2.2.2.2.2.2.2.2.2.2.2.2.1 s0 F pr h m c) fr en ((B+1)*86400) (if(B+1)*86400≤en then en else(B+1)*86400)=memC (picP r.2.1 r.2.2.2.2.2.2.2.2.2.2.2.2.2.2.1 s0 F pr h m c) fr en ((B+1)*86400) en:=sF _ fr en fun x q1 q2=>by
    split
    ·exact Iff.rfl
    ·exact⟨fun q=>⟨q.1,q.2.1,by omega⟩,fun q=>⟨q.1,q.2.1,by omega⟩⟩
   rw[hlast,hnext]at hsp;rw[zA.l1_eq,dp cT,cond_true,g1];simp only[cV1];rw[jR hP t htT];simp only[cV1];by_cases cin:inP r.2.1 s0 pr t
   ·obtain⟨s1,b1,k1,k2,k3⟩:=perA hP hfr hen (K:=K) t A B htT (by omega) (by omega) ⟨g2.1,g2.2.1⟩ hp cin s hs
    have e:memC (picP r.2.1 r.2.2.2.2.2.2.2.2.2.2.2.2.2.2.1 s0 F pr h m c) fr en (A*86400) ((B+1)*86400)=memC (picP r.2.1 r.2.2.2.2.2.2.2.2.2.2.2.2.2.2.1 s0 F pr h m c) fr en t ((B+1)*86400):=sF _ fr en fun x q1 q2=>by
     constructor
     ·rintro⟨q,q3,q4⟩;refine⟨q,?_,q4⟩;refine Classical.byContradiction fun z=>?_
      exact hI cT x q.1.1 q1 (by omega) ((hp x q.1.1).2 ⟨by omega,by omega⟩)
     ·rintro⟨q,q3,q4⟩;exact⟨q,by omega,q4⟩
    rw[e]at k1;rw[dp cin,cond_true,k3];simp only[cV1];rw[zA.l2_eq]
    cases b1 with
    | false=>exact⟨s1,false,pJ hsp k1,rfl⟩
    | true=>
     obtain⟨s',b,h1,h2⟩:=ih' s1 (k2 rfl);refine⟨s',b,nL hsp k1 h1,?_⟩;rw[jV1,cond_false,hw1,hw2];exact h2
   ·have e:memC (picP r.2.1 r.2.2.2.2.2.2.2.2.2.2.2.2.2.2.1 s0 F pr h m c) fr en t ((B+1)*86400)=[]:=yC _ fr en fun x _ _ q3 q4 q=>by have q5:=q.1.2.2.1;unfold inP at cin q5;rw[(hp x q.1.1).2 ⟨by omega,by omega⟩]at q5;exact cin q5
    rw[e,uV1]at hsp;obtain⟨s',b,h1,h2⟩:=ih' s hs;refine⟨s',b,by rw[←hsp];exact h1,?_⟩;rw[dn cin,cond_false,zA.l2_eq,cond_false,hw1,hw2];exact h2
  ·exact hstop t cT s hs
theorem iU1 (hf:r.1≤4) (hs0:s0≤fr) (hen2:en≤253402300800) (s:List Int) (hs:invA K s):
  ∃s' b,run (yA K) s (memL (picP r.2.1 r.2.2.2.2.2.2.2.2.2.2.2.2.2.2.1 s0 F pr h m c) fr en)=(s',b)∧zA.f P fr en ((fr,()),(en,()),(clA K s,()),())=some (((fr,()),(en,()),(clA K s',()),()),()):=by
 obtain⟨s',b,h1,h2⟩:=xM1 hP hfr hen (K:=K) hf hs0 hen2 _ fr (tV1 _) (rX1 _) (fun _ x _ q1 q2=>by omega) s hs;rw[oN]at h1;refine⟨s',b,h1,?_⟩;rw[zA.f_eq];exact h2
end
section
variable {K fr en : Int} {P : PlT}
theorem jH1 {c:List Int} (hc:okT c 59) (at_ t:Int) (ht: -63000000000≤t∧t≤300000000000) (m:List Int) (ml i:Int) (s:List Int):∀(n j:Nat),c.length-j=n→j≤c.length → ∀acc:List Int,acc.length≤j →
  eA.l2a at_ t m ml i c (c.length:Int) (j:Int) fr en K s P acc=(dB.f P (acc++(c.drop j).map fun x=>t+x)).bind fun q=>eA.l3 at_ q.1 m ml i fr en K s P:=by
 have hlim:eD=17179869184:=rfl;have lc:=hc.2.2;intro n
 induction n with
 | zero=>
  intro j hn hj acc ha;have e:j=c.length:=by omega
  subst e;rw[eA.l2a_eq,dn (show ¬(c.length:Int)<(c.length:Int) by omega),cond_false,iW1,eY1,sV1]
 | succ n ih=>
  intro j hn hj acc ha;have hlt:j<c.length:=by omega
  have hx:=hc.2.1 _ (eE hlt);have ih':=ih (j+1) (by omega) (by omega) (acc++[t+c.getD j 0]) (by rw[tF];omega);rw[pV1,qV1]at ih';rw[eA.l2a_eq,xV1,tB 0 hlt];generalize c.getD j 0=x at hx ih' ⊢;simp(disch:=omega)only[ss,mW1,hlim];rw[ih',nV1];rfl
theorem xU1 {c:List Int} (hc:okT c 59) (at_ t:Int) (ht: -63000000000≤t∧t≤300000000000) (m:List Int) (ml i:Int) (s:List Int):
  eA.l2 at_ t m ml i c (c.length:Int) 0 fr en K s P=(dB.f P (minL t c)).bind fun q=>eA.l3 at_ q.1 m ml i fr en K s P:=by
 have hlim:eD=17179869184:=rfl;have lc:=hc.2.2;rw[eA.l2_eq];unfold minL
 cases c with
 | nil=>rfl
 | cons x c=>
  have hx:=hc.2.1 x (fV1 ..);have h:=jH1 (K:=K) (fr:=fr) (en:=en) (P:=P) hc at_ t ht m ml i s c.length 1 (by rw[eW1];omega) (by rw[eW1];omega) [t+x] (by simp);have hlen:((x::c).length:Int)>0:=by rw[eW1];omega
  have hw:w6 (t+x)=t+x:=wr (by omega) (by omega);rw[dp (show(0:Int)<((x::c).length:Int) by omega),cond_true,dp (show(0:Int)≤0 by omega),cond_true,cond_true,tn_0,List.getD_cons_zero,hw];rw[dp (show([]:List Int).length+[t+x].length≤eD by rw[hlim];simp),cond_true];exact h
theorem gI1 {c:List Int} (hc:okT c 59) (at_ t b:Int) (ht: -63000000000≤t∧t≤300000000000) (hb:0≤b∧b≤59) (h:List Int) (hl i:Int) (m:List Int) (ml j:Int) (s:List Int) (N:Nat) (hN:N≤3600):∀(n k:Nat),c.length-k=n→k≤c.length → ∀acc:List Int,acc.length≤N+k →
  kA.l3 at_ t b h hl i m ml j c (c.length:Int) (k:Int) fr en K s P acc=kA.l2 at_ t h hl i m ml (w6 (j+1)) fr en K s P (acc++(c.drop k).map fun x=>t+60*b+x):=by
 have hlim:eD=17179869184:=rfl;have lc:=hc.2.2;intro n
 induction n with
 | zero=>
  intro k hn hk acc ha;have e:k=c.length:=by omega
  subst e;rw[kA.l3_eq,dn (show ¬(c.length:Int)<(c.length:Int) by omega),cond_false,iW1,eY1,sV1]
 | succ n ih=>
  intro k hn hk acc ha;have hlt:k<c.length:=by omega
  have hx:=hc.2.1 _ (eE hlt);have ih':=ih (k+1) (by omega) (by omega) (acc++[t+60*b+c.getD k 0]) (by rw[tF];omega);rw[pV1,qV1]at ih';rw[kA.l3_eq,xV1,tB 0 hlt];generalize c.getD k 0=x at hx ih' ⊢;simp(disch:=omega)only[ss,mW1,hlim];rw[ih',nV1];rfl
theorem fI1 {m c:List Int} (hP:P.2.2.2.2.2.1=c) (om:okT m 59) (hc:okT c 59) (at_ t:Int) (ht: -63000000000≤t∧t≤300000000000) (h:List Int) (hl i:Int) (s:List Int):∀(n j:Nat),m.length-j=n→j≤m.length → ∀acc:List Int,acc.length≤60*j →
  kA.l2 at_ t h hl i m (m.length:Int) (j:Int) fr en K s P acc=kA.l2 at_ t h hl i m (m.length:Int) (m.length:Int) fr en K s P (acc++(m.drop j).flatMap fun b=>minL (t+60*b) c):=by
 have lc:=hc.2.2;have lm:=om.2.2;intro n
 induction n with
 | zero=>
  intro j hn hj acc ha;have e:j=m.length:=by omega
  subst e;rw[iW1,List.flatMap_nil,sV1]
 | succ n ih=>
  intro j hn hj acc ha;have hlt:j<m.length:=by omega
  have hx:=om.2.1 _ (eE hlt);have hw:w6 ((j:Int)+1)=((j+1:Nat):Int):=uI1 (by omega);rw[kA.l2_eq,xV1,tB 0 hlt,xW1,hP];generalize m.getD j 0=b at hx ⊢;have h3:=gI1 (K:=K) (fr:=fr) (en:=en) (P:=P) hc at_ t b ht hx h hl i m (m.length:Int) (j:Int) s (60*j) (by omega) c.length 0 (by omega) (hV1 _) acc (by omega);rw[oV1,fW1,hw]at h3;have ih':=ih (j+1) (by omega) (by omega) (acc++minL (t+60*b) c) (by unfold minL;rw[gV1,vW1];omega);rw[dp (show(j:Int)<(m.length:Int) by omega),dp (show(0:Int)≤(j:Int) by omega),cond_true,cond_true,cond_true,h3];rw[nV1]at ih';exact ih'
end
section
variable {P : PlT} {r : Rl} {s0 : Int} {F : Int → Bool} {pr : Int → Int} {h m c : List Int} (hP : PlanOK P r s0 F pr h m c) {K fr en : Int} (hfr : -63000000000 ≤ fr ∧ fr ≤ 300000000000) (hen : -63000000000 ≤ en ∧ en ≤ 300000000000)
include hP
theorem iN1 (d a:Int) (hd: -719162≤d∧d≤2932896) (ha:a∈h) (hF:F d=true) (hf:r.1=6∨r.1=7):∀(n i:Nat),m.length-i=n→i≤m.length → ∀s:List Int,invA K s →
  ∃s' b,run (yA K) s (memC (fun x=>picP r.2.1 r.2.2.2.2.2.2.2.2.2.2.2.2.2.2.1 s0 F pr h m c x∧(x-(d*86400+3600*a))/60∈m.drop i) fr en (d*86400+3600*a) (d*86400+3600*a+3600))=(s',b)∧(b=true→invA K s') ∧
   eA.l1 (d*86400+3600*a) m (m.length:Int) (i:Int) fr en K s P=some (b,((fr,()),(en,()),(clA K s',()),()),()):=by
 have lm:=hP.om.2.2;have lc:=hP.oc.2.2;have ha0:=hP.oh.2.1 a ha;intro n
 induction n with
 | zero=>
  intro i hn hi s hs;have e:i=m.length:=by omega
  subst e;refine⟨s,true,by rw[yC _ fr en (fun x _ _ _ _ q=>by rw[iW1]at q;exact absurd q.2 (by simp))];rfl,fun _=>hs,?_⟩;rw[eA.l1_eq];simp(disch:=omega)only[ss]
 | succ n ih=>
  intro i hn hi s hs;have hlt:i<m.length:=by omega
  have ih':=ih (i+1) (by omega) (by omega);rw[pV1,qV1]at ih';have hbm:=eE hlt;have hb0:=hP.om.2.1 _ hbm;have hrd:Rise (m.drop i):=List.Pairwise.sublist (List.drop_sublist i m) hP.om.1;rw[tB 0 hlt]at hrd ⊢;have hgb:m.getD (i:Int).toNat 0=m.getD i 0:=by rw[xV1]
  rw[eA.l1_eq,hgb];generalize m.getD i 0=b at hbm hb0 hrd ⊢;have hsp:=rN (picP r.2.1 r.2.2.2.2.2.2.2.2.2.2.2.2.2.2.1 s0 F pr h m c) fr en (a:=b) (l:=m.drop (i+1)) (lo:=d*86400+3600*a) (hi:=d*86400+3600*a+3600) (a1:=d*86400+3600*a+60*b) (a2:=d*86400+3600*a+60*b+60)
   (fun x=>(x-(d*86400+3600*a))/60) hrd (fun x y q=>by omega) (fun x _=>by constructor <;> intro q <;> omega)
  have w1:w6 (d*86400+3600*a+w6 ((60:Int)*b))=d*86400+3600*a+60*b:=by rw[wr (x:=(60:Int)*b) (by omega) (by omega),wr (by omega) (by omega)]
  have w2:w6 ((i:Int)+1)=(i:Int)+1:=wr (by omega) (by omega);have htT:inT (d*86400+3600*a+60*b):=by unfold inT;omega
  have fin:∀L:List Int,L.length≤1000000→L.filter (inW fr en)=memC (picP r.2.1 r.2.2.2.2.2.2.2.2.2.2.2.2.2.2.1 s0 F pr h m c) fr en (d*86400+3600*a+60*b) (d*86400+3600*a+60*b+60) →
    ∃s' b',run (yA K) s (memC (fun x=>picP r.2.1 r.2.2.2.2.2.2.2.2.2.2.2.2.2.2.1 s0 F pr h m c x∧(x-(d*86400+3600*a))/60∈b::m.drop (i+1)) fr en (d*86400+3600*a) (d*86400+3600*a+3600))=(s',b')∧(b'=true→invA K s')∧eA.l3 (d*86400+3600*a) L m (m.length:Int) (i:Int) fr en K s P=some (b',((fr,()),(en,()),(clA K s',()),()),()):=by
   intro L hL he;obtain⟨s1,b1,g1,g2,g3⟩:=jJ1 (K:=K) (fr:=fr) (en:=en) hL s hs;rw[he]at g1;rw[eA.l3_eq,g3];simp only[cV1]
   cases b1 with
   | false=>exact⟨s1,false,pJ hsp g1,(fun q=>by cases q),rfl⟩
   | true=>
    obtain⟨s',b',h1,h2,h3⟩:=ih' s1 (g2 rfl);refine⟨s',b',nL hsp g1 h1,h2,?_⟩;rw[jV1,cond_false,w2];exact h3
  rw[dp (show(i:Int)<(m.length:Int) by omega),dp (show(0:Int)≤(i:Int) by omega),cond_true,cond_true,cond_true,w1,hP.er];by_cases c7:r.1=7
  ·obtain⟨L,k1,k2,k3⟩:=eD1 hP d a b hd ha hbm hF c7;rw[dp c7,cond_true,k3];simp only[cV1];exact fin L k1 (gJ _ fr en k2.1 k2.2)
  ·have c6:r.1=6:=by omega
   obtain⟨k1,k2,k3⟩:=hD1 hP d a b hd ha hbm hF c6;rw[dn c7,cond_false,jR hP _ htT];simp only[cV1];by_cases cin:inP r.2.1 s0 pr (d*86400+3600*a+60*b)
   ·rw[dp cin,cond_true,hP.ec,xU1 (K:=K) hP.oc _ _ (by omega) m _ _ s,xL hP (dN hP _) (zD1 hP _)];simp only[cV1];exact fin _ k1 (gJ _ fr en k2 (k3 cin))
   ·have e:memC (picP r.2.1 r.2.2.2.2.2.2.2.2.2.2.2.2.2.2.1 s0 F pr h m c) fr en (d*86400+3600*a+60*b) (d*86400+3600*a+60*b+60)=[]:=yC _ fr en fun x _ _ q1 q2 q=>by have q5:=q.1.2.2.1;unfold inP at cin q5;rw[hP.p6 c6 x q.1.1,show x/60=(d*86400+3600*a+60*b)/60 by omega,←hP.p6 c6 _ htT]at q5;exact cin q5
    rw[e,uV1]at hsp;obtain⟨s1,b1,g1,g2,g3⟩:=jJ1 (K:=K) (fr:=fr) (en:=en) (L:=[]) (hV1 _) s hs;have g1:(s,true)=(s1,b1):=g1;obtain⟨rfl,rfl⟩:=Prod.mk.inj g1;obtain⟨s',b',h1,h2,h3⟩:=ih' s hs;refine⟨s',b',by rw[←hsp];exact h1,h2,?_⟩;rw[dn cin,cond_false,eA.l3a_eq,g3];simp only[cV1];rw[jV1,cond_false,w2];exact h3
theorem fU1 (d a:Int) (hd: -719162≤d∧d≤2932896) (ha:a∈h) (hF:F d=true) (hf:r.1=6∨r.1=7) (s:List Int) (hs:invA K s):
  ∃s' b,run (yA K) s (memC (picP r.2.1 r.2.2.2.2.2.2.2.2.2.2.2.2.2.2.1 s0 F pr h m c) fr en (d*86400+3600*a) (d*86400+3600*a+3600))=(s',b)∧(b=true→invA K s') ∧
   eA.f P (d*86400+3600*a) ((fr,()),(en,()),(clA K s,()),())=some (b,((fr,()),(en,()),(clA K s',()),()),()):=by
 obtain⟨s',b,h1,h2,h3⟩:=iN1 hP (K:=K) (fr:=fr) (en:=en) d a hd ha hF hf m.length 0 (by omega) (hV1 _) s hs
 have e:memC (picP r.2.1 r.2.2.2.2.2.2.2.2.2.2.2.2.2.2.1 s0 F pr h m c) fr en (d*86400+3600*a) (d*86400+3600*a+3600)=memC (fun x=>picP r.2.1 r.2.2.2.2.2.2.2.2.2.2.2.2.2.2.1 s0 F pr h m c x∧(x-(d*86400+3600*a))/60∈m.drop 0) fr en (d*86400+3600*a) (d*86400+3600*a+3600):=sF _ fr en fun x _ _=>by
  rw[fW1];constructor
  ·rintro⟨q,q1,q2⟩;exact⟨⟨q,((mK hP d a x hd ha hF q1 q2).1 q.1).1⟩,q1,q2⟩
  ·rintro⟨⟨q,_⟩,q1⟩;exact⟨q,q1⟩
 refine⟨s',b,by rw[e];exact h1,h2,?_⟩;rw[oV1]at h3;rw[eA.f_eq,hP.em];exact h3
theorem zO1 (d:Int) (hd: -719162≤d∧d≤2932896) (hF:F d=true) (hf:4<r.1):∀(n i:Nat),h.length-i=n→i≤h.length → ∀s:List Int,invA K s →
  ∃s' b,run (yA K) s (memC (fun x=>picP r.2.1 r.2.2.2.2.2.2.2.2.2.2.2.2.2.2.1 s0 F pr h m c x∧(x-d*86400)/3600∈h.drop i) fr en (d*86400) (d*86400+86400))=(s',b)∧(b=true→invA K s') ∧
   kA.l1 (d*86400) h (h.length:Int) (i:Int) fr en K s P=some (b,((fr,()),(en,()),(clA K s',()),()),()):=by
 have lh:=hP.oh.2.2;have hfr7:=hP.fr;intro n
 induction n with
 | zero=>
  intro i hn hi s hs;have e:i=h.length:=by omega
  subst e;refine⟨s,true,by rw[yC _ fr en (fun x _ _ _ _ q=>by rw[iW1]at q;exact absurd q.2 (by simp))];rfl,fun _=>hs,?_⟩;rw[kA.l1_eq];simp(disch:=omega)only[ss]
 | succ n ih=>
  intro i hn hi s hs;have hlt:i<h.length:=by omega
  have ih':=ih (i+1) (by omega) (by omega);rw[pV1,qV1]at ih';have hbm:=eE hlt;have hb0:=hP.oh.2.1 _ hbm;have hrd:Rise (h.drop i):=List.Pairwise.sublist (List.drop_sublist i h) hP.oh.1;rw[tB 0 hlt]at hrd ⊢;have hgb:h.getD (i:Int).toNat 0=h.getD i 0:=by rw[xV1]
  rw[kA.l1_eq,hgb];generalize h.getD i 0=a at hbm hb0 hrd ⊢;have hsp:=rN (picP r.2.1 r.2.2.2.2.2.2.2.2.2.2.2.2.2.2.1 s0 F pr h m c) fr en (a:=a) (l:=h.drop (i+1)) (lo:=d*86400) (hi:=d*86400+86400) (a1:=d*86400+3600*a) (a2:=d*86400+3600*a+3600)
   (fun x=>(x-d*86400)/3600) hrd (fun x y q=>by omega) (fun x _=>by constructor <;> intro q <;> omega)
  have w1:w6 (d*86400+w6 ((3600:Int)*a))=d*86400+3600*a:=by rw[wr (x:=(3600:Int)*a) (by omega) (by omega),wr (by omega) (by omega)]
  have w2:w6 ((i:Int)+1)=(i:Int)+1:=wr (by omega) (by omega);have htT:inT (d*86400+3600*a):=by unfold inT;omega
  rw[dp (show(i:Int)<(h.length:Int) by omega),dp (show(0:Int)≤(i:Int) by omega),cond_true,cond_true,cond_true,w1,w2,hP.er];by_cases c5:r.1>5
  ·obtain⟨s1,b1,g1,g2,g3⟩:=fU1 hP (K:=K) (fr:=fr) (en:=en) d a hd hbm hF (by omega) s hs;rw[dp c5,cond_true,g3];simp only[cV1]
   cases b1 with
   | false=>exact⟨s1,false,pJ hsp g1,(fun q=>by cases q),rfl⟩
   | true=>
    obtain⟨s',b',h1,h2,h3⟩:=ih' s1 (g2 rfl);refine⟨s',b',nL hsp g1 h1,h2,?_⟩;rw[jV1,cond_false];exact h3
  ·have c5':r.1=5:=by omega
   obtain⟨k1,k2,k3⟩:=sJ1 hP d a hd hbm hF c5';rw[dn c5,cond_false,jR hP _ htT];simp only[cV1];by_cases cin:inP r.2.1 s0 pr (d*86400+3600*a)
   ·obtain⟨s1,b1,g1,g2,g3⟩:=jJ1 (K:=K) (fr:=fr) (en:=en) k1 s hs;rw[gJ _ fr en k2 (k3 cin)]at g1;have hl2:=fI1 (K:=K) (fr:=fr) (en:=en) (P:=P) hP.ec hP.om hP.oc (d*86400) (d*86400+3600*a) (by omega) h (h.length:Int) (i:Int) s m.length 0 (by omega) (hV1 _) [] (hV1 _);rw[oV1,fW1,uV1]at hl2;have hpk:=xL hP (kJ hP.om.1 hP.oc.1 hP.oc.2.1 (d*86400+3600*a)) (yW1 (gT hP _) (by decide));unfold qV at hpk g3 k1 k2 k3;rw[dp cin,jV1,cond_false,hP.em,hl2,kA.l2_eq,dn (show ¬(m.length:Int)<(m.length:Int) by omega),cond_false,hpk];simp only[cV1];rw[g3];simp only[cV1]
    cases b1 with
    | false=>exact⟨s1,false,pJ hsp g1,(fun q=>by cases q),rfl⟩
    | true=>
     obtain⟨s',b',h1,h2,h3⟩:=ih' s1 (g2 rfl);refine⟨s',b',nL hsp g1 h1,h2,?_⟩;rw[jV1,cond_false,w2];exact h3
   ·have e:memC (picP r.2.1 r.2.2.2.2.2.2.2.2.2.2.2.2.2.2.1 s0 F pr h m c) fr en (d*86400+3600*a) (d*86400+3600*a+3600)=[]:=yC _ fr en fun x _ _ q1 q2 q=>by have q5:=q.1.2.2.1;unfold inP at cin q5;rw[hP.p5 c5' x q.1.1,show x/3600=(d*86400+3600*a)/3600 by omega,←hP.p5 c5' _ htT]at q5;exact cin q5
    rw[e,uV1]at hsp;obtain⟨s',b',h1,h2,h3⟩:=ih' s hs;refine⟨s',b',by rw[←hsp];exact h1,h2,?_⟩;rw[dn cin,qW1,cond_true];exact h3
theorem hrsA (d:Int) (hd: -719162≤d∧d≤2932896) (hF:F d=true) (hf:4<r.1) (s:List Int) (hs:invA K s):
  ∃s' b,run (yA K) s (memC (picP r.2.1 r.2.2.2.2.2.2.2.2.2.2.2.2.2.2.1 s0 F pr h m c) fr en (d*86400) ((d+1)*86400))=(s',b)∧(b=true→invA K s') ∧
   kA.f P (d*86400) ((fr,()),(en,()),(clA K s,()),())=some (b,((fr,()),(en,()),(clA K s',()),()),()):=by
 obtain⟨s',b,h1,h2,h3⟩:=zO1 hP (K:=K) (fr:=fr) (en:=en) d hd hF hf h.length 0 (by omega) (hV1 _) s hs
 have e:memC (picP r.2.1 r.2.2.2.2.2.2.2.2.2.2.2.2.2.2.1 s0 F pr h m c) fr en (d*86400) ((d+1)*86400)=memC (fun x=>picP r.2.1 r.2.2.2.2.2.2.2.2.2.2.2.2.2.2.1 s0 F pr h m c x∧(x-d*86400)/3600∈h.drop 0) fr en (d*86400) (d*86400+86400):=sF _ fr en fun x _ _=>by
  rw[fW1];constructor
  ·rintro⟨q,q1,q2⟩;have:=((fT hP.om.2.1 hP.oc.2.1 _).1 q.1.2.1).1;rw[show x%86400/3600=(x-d*86400)/3600 by omega]at this;exact⟨⟨q,this⟩,q1,by omega⟩
  ·rintro⟨⟨q,_⟩,q1,q2⟩;exact⟨q,q1,by omega⟩
 refine⟨s',b,by rw[e];exact h1,h2,?_⟩;rw[oV1]at h3;rw[kA.f_eq,hP.eh];exact h3
theorem bN1 (hf:4<r.1) (D:Int) (hD:D≤2932897):∀(n:Nat) (d:Int),(D+1-d).toNat=n → -800000≤d → ∀s:List Int,invA K s →
  ∃s' b,run (yA K) s (memC (picP r.2.1 r.2.2.2.2.2.2.2.2.2.2.2.2.2.2.1 s0 F pr h m c) fr en (d*86400) ((D+1)*86400))=(s',b)∧wA.l1 D d fr en K s P=some (((fr,()),(en,()),(clA K s',()),()),()):=by
 intro n
 induction n with
 | zero=>
  intro d hn hd s hs;refine⟨s,true,by rw[yC _ fr en (fun x _ _ h1 h2=>by omega)];rfl,?_⟩;rw[wA.l1_eq,dn (show ¬d≤D by omega),cond_false]
 | succ n ih=>
  intro d hn hd s hs;have hdD:d≤D:=by omega
  have hw:w6 (d+1)=d+1:=wr (by omega) (by omega);have hw2:w6 (d*86400)=d*86400:=wr (by omega) (by omega);have hsp:=jI (picP r.2.1 r.2.2.2.2.2.2.2.2.2.2.2.2.2.2.1 s0 F pr h m c) fr en (a:=d*86400) (b:=(d+1)*86400) (c:=(D+1)*86400) (by omega) (by omega);have ih':=ih (d+1) (by omega) (by omega);rw[wA.l1_eq,dp hdD,cond_true,fC.f_eq,hP.fits d];simp only[cV1]
  cases hF:F d with
  | false=>
   rw[yC _ fr en (fun x _ _ q1 q2 q=>by
    have q:=q.1.2.2.2;rw[show x/86400=d by omega,hF]at q
    cases q),uV1]at hsp
   obtain⟨s',b,h1,h2⟩:=ih' s hs;refine⟨s',b,by rw[←hsp];exact h1,?_⟩;rw[cond_false,wA.l2_eq,cond_false,hw];exact h2
  | true=>
   obtain⟨s1,b1,g1,g2,g3⟩:=hrsA hP (K:=K) (fr:=fr) (en:=en) d (hP.fin d hF) hF hf s hs;rw[cond_true,hw2,g3];simp only[cV1];rw[wA.l2_eq]
   cases b1 with
   | false=>exact⟨s1,false,pJ hsp g1,rfl⟩
   | true=>
    obtain⟨s',b,h1,h2⟩:=ih' s1 (g2 rfl);refine⟨s',b,nL hsp g1 h1,?_⟩;rw[jV1,cond_false,hw];exact h2
include hfr hen
theorem uU1 (hf:4<r.1) (hen2:en≤253402300800) (s:List Int) (hs:invA K s):
  ∃s' b,run (yA K) s (memL (picP r.2.1 r.2.2.2.2.2.2.2.2.2.2.2.2.2.2.1 s0 F pr h m c) fr en)=(s',b)∧wA.f P fr en ((fr,()),(en,()),(clA K s,()),())=some (((fr,()),(en,()),(clA K s',()),()),()):=by
 have hd1:=(oD fr (by omega) (by omega)).1;have hd2:=(oD en (by omega) (by omega)).1;obtain⟨s',b,h1,h2⟩:=bN1 hP (K:=K) (fr:=fr) (en:=en) hf (en/86400) (by omega) _ (fr/86400) rfl (by omega) s hs;have e:memC (picP r.2.1 r.2.2.2.2.2.2.2.2.2.2.2.2.2.2.1 s0 F pr h m c) fr en fr en=memC (picP r.2.1 r.2.2.2.2.2.2.2.2.2.2.2.2.2.2.1 s0 F pr h m c) fr en (fr/86400*86400) ((en/86400+1)*86400):=sF _ fr en fun x q1 q2=>⟨fun q=>⟨q.1,by omega,by omega⟩,fun q=>⟨q.1,q1,q2⟩⟩
 rw[←oN,e];refine⟨s',b,h1,?_⟩;rw[wA.f_eq,hd1,hd2];exact h2
omit hfr hen
theorem yU1 (hu:r.2.2.2.2.2.1=true→inT r.2.2.2.1) (f0 e0:Int) (hf0: -63000000000≤f0∧f0≤300000000000) (he0: -63000000000≤e0∧e0≤253402300799) (s:List Int) (hs:invA K s):
  zB.f P f0 e0 (clA K s)=some (clA K (run (yA K) s (memL (belP r.2.1 r.2.2.2.1 r.2.2.2.2.2.1 r.2.2.2.2.2.2.2.2.2.2.2.2.2.2.1 s0 F pr h m c) f0 e0)).1,()):=by
 have hS:=hP.inS;unfold inT at hS;have hgo:∀fr en:Int,s0≤fr → -63000000000≤fr∧fr≤300000000000 → -63000000000≤en∧en≤253402300800→memL (picP r.2.1 r.2.2.2.2.2.2.2.2.2.2.2.2.2.2.1 s0 F pr h m c) fr en=memL (belP r.2.1 r.2.2.2.1 r.2.2.2.2.2.1 r.2.2.2.2.2.2.2.2.2.2.2.2.2.2.1 s0 F pr h m c) f0 e0 →
   zB.l1 K s P fr en=some (clA K (run (yA K) s (memL (belP r.2.1 r.2.2.2.1 r.2.2.2.2.2.1 r.2.2.2.2.2.2.2.2.2.2.2.2.2.2.1 s0 F pr h m c) f0 e0)).1,()):=by
  intro fr en h1 h2 h3 e;rw[zB.l1_eq,hP.er];by_cases c5:r.1<5
  ·obtain⟨s',b,g1,g2⟩:=iU1 hP (K:=K) h2 (by omega) (by omega) h1 h3.2 s hs;rw[dp c5,cond_true,g2];simp only[cV1];rw[←e,g1]
  ·obtain⟨s',b,g1,g2⟩:=uU1 hP (K:=K) h2 (by omega) (by omega) h3.2 s hs;rw[dn c5,cond_false,g2];simp only[cV1];rw[←e,g1]
 rw[zB.f_eq,hP.er,hP.es,kZ]
 cases hen:r.2.2.2.2.2.1 with
 | false=>
  rw[hen]at hgo;rw[cond_false];refine hgo _ _ (by omega) (by omega) (by omega) (eJ _ (cE _ _ _) fun x=>?_);rw[yD,dW];constructor
  ·rintro⟨q,q1,q2⟩;exact⟨⟨q,by omega,(fun z=>by cases z)⟩,by omega,q2⟩
  ·rintro⟨⟨q,q1,_⟩,q2,q3⟩;exact⟨q,by omega,q3⟩
 | true=>
  have hu:=hu hen;unfold inT at hu;rw[hen]at hgo;rw[cond_true,wr (x:=r.2.2.2.1+1) (by omega) (by omega),xT];refine hgo _ _ (by omega) (by omega) (by omega) (eJ _ (cE _ _ _) fun x=>?_);rw[yD,dW];constructor
  ·rintro⟨q,q1,q2⟩;exact⟨⟨q,by omega,fun _=>by omega⟩,by omega,by omega⟩
  ·rintro⟨⟨q,q1,q4⟩,q2,q3⟩;have:=q4 rfl;exact⟨q,by omega,by omega⟩
end
abbrev clB (K:Int) (s:Int×Bool):(Int×Unit)×(Int×Unit)×(Bool×Unit)×Unit:=((K,()),(s.1,()),(s.2,()),())
abbrev yB :=yesN
def invB (_:Int) (_:Int×Bool):Prop:=True
theorem yesB {K:Int} {s:Int×Bool} (_:invB K s) (x:Int):vG.f x (K,()) (s.1,()) (s.2,())=some ((yB K s x).2,(K,()),((yB K s x).1.1,()),((yB K s x).1.2,()),())∧((yB K s x).2=true→invB K (yB K s x).1):=by
 refine⟨?_,fun _=>trivial⟩;rw[vG.f_eq];unfold yB yesN;by_cases c:x>K
 ·rw[dp c,if_pos c];rfl
 ·rw[dn c,if_neg c];rfl
section
variable {K fr en : Int}
theorem dM1 {L:List Int} (hl:L.length≤1000000):∀(n i:Nat),L.length-i=n→i≤L.length → ∀s:Int×Bool,invB K s →
  ∃s' b,run (yB K) s ((L.drop i).filter (inW fr en))=(s',b)∧(b=true→invB K s')∧nA.l1 L (L.length:Int) (i:Int) fr en K s.1 s.2=some (b,(fr,()),(en,()),(clB K s',()),()):=by
 intro n
 induction n with
 | zero=>
  intro i hn hi s hs;have e:i=L.length:=by omega
  subst e;refine⟨s,true,by rw[iW1];rfl,fun _=>hs,?_⟩;rw[nA.l1_eq];simp(disch:=omega)only[ss]
 | succ n ih=>
  intro i hn hi s hs;have hlt:i<L.length:=by omega
  have ih':=ih (i+1) (by omega) (by omega);rw[pV1,qV1]at ih';rw[nA.l1_eq,xV1,tB 0 hlt];generalize L.getD i 0=x;by_cases c:fr≤x∧x<en
  ·have hin:inW fr en x=true:=by unfold inW;rw[dp c.1,dp c.2];rfl
   rw[List.filter_cons_of_pos hin,yL];obtain⟨hy,hinv⟩:=yesB hs x
   cases hb:(yB K s x).2 with
   | true=>
    obtain⟨s',b,h1,h2,h3⟩:=ih' _ (hinv hb);refine⟨s',b,by rw[if_pos rfl];exact h1,h2,?_⟩;simp(disch:=omega)only[ss,hy,hb,nA.l2_eq];exact h3
   | false=>
    refine⟨_,false,by rw[if_neg (by simp)],(fun q=>by cases q),?_⟩;simp(disch:=omega)only[ss,hy,hb,nA.l2_eq]
  ·have hin:inW fr en x=false:=by
    cases q:inW fr en x with
    | false=>rfl
    | true=>
     unfold inW at q;rw[dV1,decide_eq_true_eq,decide_eq_true_eq]at q;exact absurd q c
   rw[jY1 (by rw[hin];simp)];obtain⟨s',b,h1,h2,h3⟩:=ih' s hs;refine⟨s',b,h1,h2,?_⟩;by_cases c1:fr≤x
   ·simp(disch:=omega)only[ss,nA.l2_eq];exact h3
   ·simp(disch:=omega)only[ss,nA.l2_eq];exact h3
theorem jI1 {L:List Int} (hl:L.length≤1000000) (s:Int×Bool) (hs:invB K s):
  ∃s' b,run (yB K) s (L.filter (inW fr en))=(s',b)∧(b=true→invB K s')∧nA.f L (fr,()) (en,()) (clB K s,())=some (b,(fr,()),(en,()),(clB K s',()),()):=by
 have h:=dM1 (fr:=fr) (en:=en) hl L.length 0 (by omega) (hV1 _) s hs;rw[oV1,fW1]at h;rw[nA.f_eq];exact h
theorem wL {s s1 s2:Int×Bool} {a b c:List Int} {q:Bool} (e:a++b=c) (h1:run (yB K) s a=(s1,true)) (h2:run (yB K) s1 b=(s2,q)):run (yB K) s c=(s2,q):=by rw[←e,yS,h1,if_pos rfl,h2]
theorem oJ {s s1:Int×Bool} {a b c:List Int} (e:a++b=c) (h1:run (yB K) s a=(s1,false)):run (yB K) s c=(s1,false):=by rw[←e,yS,h1,if_neg (by simp)]
end
section
variable {P : PlT} {r : Rl} {s0 : Int} {F : Int → Bool} {pr : Int → Int} {h m c : List Int} (hP : PlanOK P r s0 F pr h m c) {K fr en : Int} (hfr : -63000000000 ≤ fr ∧ fr ≤ 300000000000) (hen : -63000000000 ≤ en ∧ en ≤ 300000000000)
include hP
theorem dQ1 (W:Int→Prop) (A B hi E:Int) (hE:mm false B hi=E) (hEB:E≤B) (hA: -719162≤A) (hB:B≤2932896)
  (hday:∀d,A≤d→d≤B→F d=true→(dayL h m c 0 86400 d).filter (inW fr en)=memC W fr en (d*86400) ((d+1)*86400)) (hno:∀d,A≤d→d≤B→F d=false→memC W fr en (d*86400) ((d+1)*86400)=[]):
  ∀(n:Nat) (d:Int),(E+1-d).toNat=n→A≤d → ∀s:Int×Bool,invB K s →
  ∃s' b,run (yB K) s (memC W fr en (d*86400) ((E+1)*86400))=(s',b)∧(b=true→invB K s')∧xA.l1 B hi d fr en K s.1 s.2 P=some (b,((fr,()),(en,()),(clB K s',()),()),()):=by
 intro n
 induction n with
 | zero=>
  intro d hn hd s hs;refine⟨s,true,by rw[yC W fr en (fun x _ _ h1 h2=>by omega)];rfl,fun _=>hs,?_⟩;rw[xA.l1_eq,hE,dn (show ¬d≤E by omega),cond_false]
 | succ n ih=>
  intro d hn hd s hs;have hdE:d≤E:=by omega
  have hw:w6 (d+1)=d+1:=wr (by omega) (by omega);have hsp:=jI W fr en (a:=d*86400) (b:=(d+1)*86400) (c:=(E+1)*86400) (by omega) (by omega);rw[xA.l1_eq,hE,dp hdE,cond_true,fC.f_eq,hP.fits d];simp only[cV1]
  cases hF:F d with
  | false=>
   rw[hno d hd (by omega) hF,uV1]at hsp;obtain⟨s',b,h1,h2,h3⟩:=ih (d+1) (by omega) (by omega) s hs;refine⟨s',b,by rw[←hsp];exact h1,h2,?_⟩;rw[cond_false,xA.l2_eq,cond_false,hw];exact h3
  | true=>
   have hdv:=hB1 0 86400 d P 100000 (by omega) (by omega) (by omega) (by omega) (by rw[hP.eh];exact hP.oh) (by rw[hP.em];exact hP.om) (by rw[hP.ec];exact hP.oc);rw[hP.eh,hP.em,hP.ec,show((100000:Nat):Int)=100000 from rfl,lV1 (yW1 (qQ hP.oh hP.om hP.oc 0 86400 d) (by decide))]at hdv;obtain⟨s1,b1,g1,g2,g3⟩:=jI1 (K:=K) (fr:=fr) (en:=en) (L:=dayL h m c 0 86400 d) (yW1 (qQ hP.oh hP.om hP.oc 0 86400 d) (by decide)) s hs;rw[hday d hd (by omega) hF]at g1;rw[cond_true,hdv];simp only[cV1];rw[g3];simp only[cV1]
   cases b1 with
   | false=>
    refine⟨s1,false,oJ hsp g1,(fun q=>by cases q),?_⟩;rw[xA.l2_eq,qW1,cond_true]
   | true=>
    obtain⟨s',b,h1,h2,h3⟩:=ih (d+1) (by omega) (by omega) s1 (g2 rfl);refine⟨s',b,wL hsp g1 h1,h2,?_⟩;rw[xA.l2_eq,jV1,cond_false,hw];exact h3
include hfr hen
theorem perB (t A B:Int) (ht:inT t) (hA: -719162≤A) (hB:B≤2932896) (hAB:A≤t/86400∧t/86400≤B) (hp:∀x,inT x→(pr x=pr t↔A≤x/86400∧x/86400≤B)) (hin:inP r.2.1 s0 pr t) (s:Int×Bool) (hs:invB K s):
  ∃s' b,run (yB K) s (memC (picP r.2.1 r.2.2.2.2.2.2.2.2.2.2.2.2.2.2.1 s0 F pr h m c) fr en (A*86400) ((B+1)*86400))=(s',b)∧(b=true→invB K s') ∧
   xA.f P t A B fr en ((fr,()),(en,()),(clB K s,()),())=some (b,((fr,()),(en,()),(clB K s',()),()),()):=by
 have hpp:∀x y,inT x→inT y→A*86400≤x→x<(B+1)*86400→(pr y=pr x↔A*86400≤y∧y<(B+1)*86400):=fun x y hx hy h1 h2=>by rw[(hp x hx).2 (by omega),hp y hy];constructor <;> intro q <;> omega
 rw[xA.f_eq,hP.er];have hpv:=fun L hr hl=>xL hP (L:=L) hr hl
 have hpm:=fun G (hG:Rise G) (hm:∀x,x∈G↔rawP r.2.1 s0 F pr h m c x∧A*86400≤x∧x<(B+1)*86400) hlen=>wN (po:=r.2.2.2.2.2.2.2.2.2.2.2.2.2.2.1) hG hm hpp hlen
 generalize r.2.2.2.2.2.2.2.2.2.2.2.2.2.2.1=po at hpv hpm ⊢;by_cases cp:po=[]
 ·have hd1:=(oD fr (by omega) (by omega)).1;have hd2:=(oD en (by omega) (by omega)).1;obtain⟨E,hE⟩:∃E,mm false B (en/86400)=E:=⟨_,rfl⟩
  obtain⟨D,hD⟩:∃D,mm true A (fr/86400)=D:=⟨_,rfl⟩
  have hE':=hE;have hD':=hD;rw[xT]at hE';rw[kZ]at hD';have hraw:∀x,picP r.2.1 po s0 F pr h m c x↔rawP r.2.1 s0 F pr h m c x:=fun x=>⟨fun q=>q.1,fun q=>⟨q,.inl cp⟩⟩
  have hl:=dQ1 hP (K:=K) (picP r.2.1 po s0 F pr h m c) A B (en/86400) E hE (by omega) hA hB
   (fun d h1 h2 hF=>gJ _ fr en (dO hP.oh.1 hP.om.1 hP.oc.1 hP.om.2.1 hP.oc.2.1 0 86400 d) fun x=>by
    rw[eM hP.oh.2.1 hP.om.2.1 hP.oc.2.1,hraw];constructor
    ·rintro⟨q1,q2,q3,q4⟩;have hx:inT x:=by unfold inT;omega
     refine⟨⟨hx,q2,?_,by rw[q1];exact hF⟩,by omega,by omega⟩;unfold inP at hin ⊢;rw[(hp x hx).2 (by omega)];exact hin
    ·rintro⟨q,q1,q2⟩
     exact⟨by omega,q.2.1,by omega,by omega⟩)
   (fun d h1 h2 hF=>yC _ fr en fun x _ _ q1 q2 q=>by
    have q:=((hraw x).1 q).2.2.2;rw[show x/86400=d by omega,hF]at q
    cases q) (E+1-D).toNat D rfl (by omega) s hs
  obtain⟨s',b,h1,h2,h3⟩:=hl
  have e:memC (picP r.2.1 po s0 F pr h m c) fr en (A*86400) ((B+1)*86400)=memC (picP r.2.1 po s0 F pr h m c) fr en (D*86400) ((E+1)*86400):=sF _ fr en fun x q1 q2=>by
   constructor
   ·rintro⟨q,q3,q4⟩;exact⟨q,by omega,by omega⟩
   ·rintro⟨q,q3,q4⟩;exact⟨q,by omega,by omega⟩
  refine⟨s',b,by rw[e];exact h1,h2,?_⟩;rw[dn (show ¬(po.length:Int)>0 by rw[cp];simp),cond_false,hd1,hd2];simp only[cV1];rw[hD];exact h3
 ·have hpos:=lE.1 cp;obtain⟨G,G1,G2,G3⟩:=qG1 hP t ht;have g:=G3 100000 (by omega);rw[show((100000:Nat):Int)=100000 from rfl]at g;have hlen:(G.take (100000+1)).length≤1000000:=by rw[aW1];omega
  have hm:∀x,x∈G↔rawP r.2.1 s0 F pr h m c x∧A*86400≤x∧x<(B+1)*86400:=fun x=>by
   rw[G2];constructor
   ·rintro⟨q,q1⟩;have:=(hp x q.1).1 q1;exact⟨q,by omega,by omega⟩
   ·rintro⟨q,q1⟩;exact⟨q,(hp x q.1).2 (by omega)⟩
  have hpk:=hpv _ (cN G1 (100000+1)) hlen;have hlp:(fM po (G.take (100000+1))).length≤1000000:=yW1 (iN po _) hlen;obtain⟨s',b,h1,h2,h3⟩:=jI1 (K:=K) (fr:=fr) (en:=en) hlp s hs;rw[gJ _ fr en (oL (cN G1 (100000+1))) (hpm G G1 hm (fun q=>absurd q cp))]at h1;refine⟨s',b,h1,h2,?_⟩;rw[dp hpos,cond_true,g];simp only[cV1];rw[hpk];simp only[cV1];rw[h3];rfl
theorem eN1 (hf:r.1≤4) (hs0:s0≤fr) (hen2:en≤253402300800):∀(n:Nat) (t:Int),(en-t).toNat≤n→fr≤t→(t<en → ∀x,inT x→fr≤x→x<t→pr x≠pr t) → ∀s:Int×Bool,invB K s →
  ∃s' b,run (yB K) s (memC (picP r.2.1 r.2.2.2.2.2.2.2.2.2.2.2.2.2.2.1 s0 F pr h m c) fr en t en)=(s',b)∧sA.l1 fr en t fr en K s.1 s.2 P=some (((fr,()),(en,()),(clB K s',()),()),()):=by
 have hstop:∀t:Int,¬t<en → ∀s:Int×Bool,invB K s → ∃s' b,run (yB K) s (memC (picP r.2.1 r.2.2.2.2.2.2.2.2.2.2.2.2.2.2.1 s0 F pr h m c) fr en t en)=(s',b)∧sA.l1 fr en t fr en K s.1 s.2 P=some (((fr,()),(en,()),(clB K s',()),()),()):=fun t c s hs=>by refine⟨s,true,by rw[yC _ fr en (fun x _ _ h1 h2=>by omega)];rfl,?_⟩;rw[sA.l1_eq,dn c,cond_false]
 intro n
 induction n with
 | zero=>
  intro t hn ht hI s hs;exact hstop t (by omega) s hs
 | succ n ih=>
  intro t hn ht hI s hs;by_cases cT:t<en
  ·have hS:=hP.inS;have htT:inT t:=by unfold inT at hS ⊢;omega
   obtain⟨A,B,g1,g2,g3,_⟩:=hP.days t htT;have hp:=g3 hf;have hw1:w6 (B+1)=B+1:=wr (by omega) (by omega);have hw2:w6 ((B+1)*86400)=(B+1)*86400:=wr (by omega) (by omega)
   have hI':(B+1)*86400<en → ∀x,inT x→fr≤x→x<(B+1)*86400→pr x≠pr ((B+1)*86400):=fun q x hx h1 h2 e=>by
    have hT':inT ((B+1)*86400):=by unfold inT at hS ⊢;omega
    have hy:inT (B*86400):=by unfold inT;omega
    by_cases cx:x≤B*86400
    ·have e1:=hP.mono x _ hx hy cx;have e2:=hP.mono _ _ hy hT' (by omega);have e3:=(hp _ hy).2 ⟨by omega,by omega⟩;have:=(hp _ hT').1 (by omega);omega
    ·have e3:=(hp x hx).2 ⟨by omega,by omega⟩;have:=(hp _ hT').1 (by omega);omega
   have ih':=ih ((B+1)*86400) (by omega) (by omega) hI';have hsp:=jI (picP r.2.1 r.2.2.2.2.2.2.2.2.2.2.2.2.2.2.1 s0 F pr h m c) fr en (a:=t) (b:=(B+1)*86400) (c:=if(B+1)*86400≤en then en else(B+1)*86400) (by omega) (by split <;> omega)
   have hlast:memC (picP r.2.1 r.2.2.2.2.2.2.2.2.2.2.2.2.2.2.1 s0 F pr h m c) fr en t (if(B+1)*86400≤en then en else(B+1)*86400)=memC (picP r.2.1 r.2.2.2.2.2.2.2.2.2.2.2.2.2.2.1 s0 F pr h m c) fr en t en:=sF _ fr en fun x q1 q2=>by
    split
    ·exact Iff.rfl
    ·exact⟨fun q=>⟨q.1,q.2.1,by omega⟩,fun q=>⟨q.1,q.2.1,by omega⟩⟩
   have hnext:memC (picP r.2.1 r.2.2.2.2.2.2.2.2.2.2.2.2.2.2.1 s0 F pr h m c) fr en ((B+1)*86400) (if(B+1)*86400≤en then en else(B+1)*86400)=memC (picP r.2.1 r.2.2.2.2.2.2.2.2.2.2.2.2.2.2.1 s0 F pr h m c) fr en ((B+1)*86400) en:=sF _ fr en fun x q1 q2=>by
    split
    ·exact Iff.rfl
    ·exact⟨fun q=>⟨q.1,q.2.1,by omega⟩,fun q=>⟨q.1,q.2.1,by omega⟩⟩
   rw[hlast,hnext]at hsp;rw[sA.l1_eq,dp cT,cond_true,g1];simp only[cV1];rw[jR hP t htT];simp only[cV1];by_cases cin:inP r.2.1 s0 pr t
   ·obtain⟨s1,b1,k1,k2,k3⟩:=perB hP hfr hen (K:=K) t A B htT (by omega) (by omega) ⟨g2.1,g2.2.1⟩ hp cin s hs
    have e:memC (picP r.2.1 r.2.2.2.2.2.2.2.2.2.2.2.2.2.2.1 s0 F pr h m c) fr en (A*86400) ((B+1)*86400)=memC (picP r.2.1 r.2.2.2.2.2.2.2.2.2.2.2.2.2.2.1 s0 F pr h m c) fr en t ((B+1)*86400):=sF _ fr en fun x q1 q2=>by
     constructor
     ·rintro⟨q,q3,q4⟩;refine⟨q,?_,q4⟩;refine Classical.byContradiction fun z=>?_
      exact hI cT x q.1.1 q1 (by omega) ((hp x q.1.1).2 ⟨by omega,by omega⟩)
     ·rintro⟨q,q3,q4⟩;exact⟨q,by omega,q4⟩
    rw[e]at k1;rw[dp cin,cond_true,k3];simp only[cV1];rw[sA.l2_eq]
    cases b1 with
    | false=>exact⟨s1,false,oJ hsp k1,rfl⟩
    | true=>
     obtain⟨s',b,h1,h2⟩:=ih' s1 (k2 rfl);refine⟨s',b,wL hsp k1 h1,?_⟩;rw[jV1,cond_false,hw1,hw2];exact h2
   ·have e:memC (picP r.2.1 r.2.2.2.2.2.2.2.2.2.2.2.2.2.2.1 s0 F pr h m c) fr en t ((B+1)*86400)=[]:=yC _ fr en fun x _ _ q3 q4 q=>by have q5:=q.1.2.2.1;unfold inP at cin q5;rw[(hp x q.1.1).2 ⟨by omega,by omega⟩]at q5;exact cin q5
    rw[e,uV1]at hsp;obtain⟨s',b,h1,h2⟩:=ih' s hs;refine⟨s',b,by rw[←hsp];exact h1,?_⟩;rw[dn cin,cond_false,sA.l2_eq,cond_false,hw1,hw2];exact h2
  ·exact hstop t cT s hs
theorem rU1 (hf:r.1≤4) (hs0:s0≤fr) (hen2:en≤253402300800) (s:Int×Bool) (hs:invB K s):
  ∃s' b,run (yB K) s (memL (picP r.2.1 r.2.2.2.2.2.2.2.2.2.2.2.2.2.2.1 s0 F pr h m c) fr en)=(s',b)∧sA.f P fr en ((fr,()),(en,()),(clB K s,()),())=some (((fr,()),(en,()),(clB K s',()),()),()):=by
 obtain⟨s',b,h1,h2⟩:=eN1 hP hfr hen (K:=K) hf hs0 hen2 _ fr (tV1 _) (rX1 _) (fun _ x _ q1 q2=>by omega) s hs;rw[oN]at h1;refine⟨s',b,h1,?_⟩;rw[sA.f_eq];exact h2
end
section
variable {K fr en : Int} {P : PlT}
theorem wJ1 {c:List Int} (hc:okT c 59) (at_ t:Int) (ht: -63000000000≤t∧t≤300000000000) (m:List Int) (ml i:Int) (s:Int×Bool):∀(n j:Nat),c.length-j=n→j≤c.length → ∀acc:List Int,acc.length≤j →
  cA.l2a at_ t m ml i c (c.length:Int) (j:Int) fr en K s.1 s.2 P acc=(dB.f P (acc++(c.drop j).map fun x=>t+x)).bind fun q=>cA.l3 at_ q.1 m ml i fr en K s.1 s.2 P:=by
 have hlim:eD=17179869184:=rfl;have lc:=hc.2.2;intro n
 induction n with
 | zero=>
  intro j hn hj acc ha;have e:j=c.length:=by omega
  subst e;rw[cA.l2a_eq,dn (show ¬(c.length:Int)<(c.length:Int) by omega),cond_false,iW1,eY1,sV1]
 | succ n ih=>
  intro j hn hj acc ha;have hlt:j<c.length:=by omega
  have hx:=hc.2.1 _ (eE hlt);have ih':=ih (j+1) (by omega) (by omega) (acc++[t+c.getD j 0]) (by rw[tF];omega);rw[pV1,qV1]at ih';rw[cA.l2a_eq,xV1,tB 0 hlt];generalize c.getD j 0=x at hx ih' ⊢;simp(disch:=omega)only[ss,mW1,hlim];rw[ih',nV1];rfl
theorem pT1 {c:List Int} (hc:okT c 59) (at_ t:Int) (ht: -63000000000≤t∧t≤300000000000) (m:List Int) (ml i:Int) (s:Int×Bool):
  cA.l2 at_ t m ml i c (c.length:Int) 0 fr en K s.1 s.2 P=(dB.f P (minL t c)).bind fun q=>cA.l3 at_ q.1 m ml i fr en K s.1 s.2 P:=by
 have hlim:eD=17179869184:=rfl;have lc:=hc.2.2;rw[cA.l2_eq];unfold minL
 cases c with
 | nil=>rfl
 | cons x c=>
  have hx:=hc.2.1 x (fV1 ..);have h:=wJ1 (K:=K) (fr:=fr) (en:=en) (P:=P) hc at_ t ht m ml i s c.length 1 (by rw[eW1];omega) (by rw[eW1];omega) [t+x] (by simp);have hlen:((x::c).length:Int)>0:=by rw[eW1];omega
  have hw:w6 (t+x)=t+x:=wr (by omega) (by omega);rw[dp (show(0:Int)<((x::c).length:Int) by omega),cond_true,dp (show(0:Int)≤0 by omega),cond_true,cond_true,tn_0,List.getD_cons_zero,hw];rw[dp (show([]:List Int).length+[t+x].length≤eD by rw[hlim];simp),cond_true];exact h
theorem bK1 {c:List Int} (hc:okT c 59) (at_ t b:Int) (ht: -63000000000≤t∧t≤300000000000) (hb:0≤b∧b≤59) (h:List Int) (hl i:Int) (m:List Int) (ml j:Int) (s:Int×Bool) (N:Nat) (hN:N≤3600):∀(n k:Nat),c.length-k=n→k≤c.length → ∀acc:List Int,acc.length≤N+k →
  jA.l3 at_ t b h hl i m ml j c (c.length:Int) (k:Int) fr en K s.1 s.2 P acc=jA.l2 at_ t h hl i m ml (w6 (j+1)) fr en K s.1 s.2 P (acc++(c.drop k).map fun x=>t+60*b+x):=by
 have hlim:eD=17179869184:=rfl;have lc:=hc.2.2;intro n
 induction n with
 | zero=>
  intro k hn hk acc ha;have e:k=c.length:=by omega
  subst e;rw[jA.l3_eq,dn (show ¬(c.length:Int)<(c.length:Int) by omega),cond_false,iW1,eY1,sV1]
 | succ n ih=>
  intro k hn hk acc ha;have hlt:k<c.length:=by omega
  have hx:=hc.2.1 _ (eE hlt);have ih':=ih (k+1) (by omega) (by omega) (acc++[t+60*b+c.getD k 0]) (by rw[tF];omega);rw[pV1,qV1]at ih';rw[jA.l3_eq,xV1,tB 0 hlt];generalize c.getD k 0=x at hx ih' ⊢;simp(disch:=omega)only[ss,mW1,hlim];rw[ih',nV1];rfl
theorem iJ1 {m c:List Int} (hP:P.2.2.2.2.2.1=c) (om:okT m 59) (hc:okT c 59) (at_ t:Int) (ht: -63000000000≤t∧t≤300000000000) (h:List Int) (hl i:Int) (s:Int×Bool):∀(n j:Nat),m.length-j=n→j≤m.length → ∀acc:List Int,acc.length≤60*j →
  jA.l2 at_ t h hl i m (m.length:Int) (j:Int) fr en K s.1 s.2 P acc=jA.l2 at_ t h hl i m (m.length:Int) (m.length:Int) fr en K s.1 s.2 P (acc++(m.drop j).flatMap fun b=>minL (t+60*b) c):=by
 have lc:=hc.2.2;have lm:=om.2.2;intro n
 induction n with
 | zero=>
  intro j hn hj acc ha;have e:j=m.length:=by omega
  subst e;rw[iW1,List.flatMap_nil,sV1]
 | succ n ih=>
  intro j hn hj acc ha;have hlt:j<m.length:=by omega
  have hx:=om.2.1 _ (eE hlt);have hw:w6 ((j:Int)+1)=((j+1:Nat):Int):=uI1 (by omega);rw[jA.l2_eq,xV1,tB 0 hlt,xW1,hP];generalize m.getD j 0=b at hx ⊢;have h3:=bK1 (K:=K) (fr:=fr) (en:=en) (P:=P) hc at_ t b ht hx h hl i m (m.length:Int) (j:Int) s (60*j) (by omega) c.length 0 (by omega) (hV1 _) acc (by omega);rw[oV1,fW1,hw]at h3;have ih':=ih (j+1) (by omega) (by omega) (acc++minL (t+60*b) c) (by unfold minL;rw[gV1,vW1];omega);rw[dp (show(j:Int)<(m.length:Int) by omega),dp (show(0:Int)≤(j:Int) by omega),cond_true,cond_true,cond_true,h3];rw[nV1]at ih';exact ih'
end
section
variable {P : PlT} {r : Rl} {s0 : Int} {F : Int → Bool} {pr : Int → Int} {h m c : List Int} (hP : PlanOK P r s0 F pr h m c) {K fr en : Int} (hfr : -63000000000 ≤ fr ∧ fr ≤ 300000000000) (hen : -63000000000 ≤ en ∧ en ≤ 300000000000)
include hP
theorem fM1 (d a:Int) (hd: -719162≤d∧d≤2932896) (ha:a∈h) (hF:F d=true) (hf:r.1=6∨r.1=7):∀(n i:Nat),m.length-i=n→i≤m.length → ∀s:Int×Bool,invB K s →
  ∃s' b,run (yB K) s (memC (fun x=>picP r.2.1 r.2.2.2.2.2.2.2.2.2.2.2.2.2.2.1 s0 F pr h m c x∧(x-(d*86400+3600*a))/60∈m.drop i) fr en (d*86400+3600*a) (d*86400+3600*a+3600))=(s',b)∧(b=true→invB K s') ∧
   cA.l1 (d*86400+3600*a) m (m.length:Int) (i:Int) fr en K s.1 s.2 P=some (b,((fr,()),(en,()),(clB K s',()),()),()):=by
 have lm:=hP.om.2.2;have lc:=hP.oc.2.2;have ha0:=hP.oh.2.1 a ha;intro n
 induction n with
 | zero=>
  intro i hn hi s hs;have e:i=m.length:=by omega
  subst e;refine⟨s,true,by rw[yC _ fr en (fun x _ _ _ _ q=>by rw[iW1]at q;exact absurd q.2 (by simp))];rfl,fun _=>hs,?_⟩;rw[cA.l1_eq];simp(disch:=omega)only[ss]
 | succ n ih=>
  intro i hn hi s hs;have hlt:i<m.length:=by omega
  have ih':=ih (i+1) (by omega) (by omega);rw[pV1,qV1]at ih';have hbm:=eE hlt;have hb0:=hP.om.2.1 _ hbm;have hrd:Rise (m.drop i):=List.Pairwise.sublist (List.drop_sublist i m) hP.om.1;rw[tB 0 hlt]at hrd ⊢;have hgb:m.getD (i:Int).toNat 0=m.getD i 0:=by rw[xV1]
  rw[cA.l1_eq,hgb];generalize m.getD i 0=b at hbm hb0 hrd ⊢;have hsp:=rN (picP r.2.1 r.2.2.2.2.2.2.2.2.2.2.2.2.2.2.1 s0 F pr h m c) fr en (a:=b) (l:=m.drop (i+1)) (lo:=d*86400+3600*a) (hi:=d*86400+3600*a+3600) (a1:=d*86400+3600*a+60*b) (a2:=d*86400+3600*a+60*b+60)
   (fun x=>(x-(d*86400+3600*a))/60) hrd (fun x y q=>by omega) (fun x _=>by constructor <;> intro q <;> omega)
  have w1:w6 (d*86400+3600*a+w6 ((60:Int)*b))=d*86400+3600*a+60*b:=by rw[wr (x:=(60:Int)*b) (by omega) (by omega),wr (by omega) (by omega)]
  have w2:w6 ((i:Int)+1)=(i:Int)+1:=wr (by omega) (by omega);have htT:inT (d*86400+3600*a+60*b):=by unfold inT;omega
  have fin:∀L:List Int,L.length≤1000000→L.filter (inW fr en)=memC (picP r.2.1 r.2.2.2.2.2.2.2.2.2.2.2.2.2.2.1 s0 F pr h m c) fr en (d*86400+3600*a+60*b) (d*86400+3600*a+60*b+60) →
    ∃s' b',run (yB K) s (memC (fun x=>picP r.2.1 r.2.2.2.2.2.2.2.2.2.2.2.2.2.2.1 s0 F pr h m c x∧(x-(d*86400+3600*a))/60∈b::m.drop (i+1)) fr en (d*86400+3600*a) (d*86400+3600*a+3600))=(s',b')∧(b'=true→invB K s')∧cA.l3 (d*86400+3600*a) L m (m.length:Int) (i:Int) fr en K s.1 s.2 P=some (b',((fr,()),(en,()),(clB K s',()),()),()):=by
   intro L hL he;obtain⟨s1,b1,g1,g2,g3⟩:=jI1 (K:=K) (fr:=fr) (en:=en) hL s hs;rw[he]at g1;rw[cA.l3_eq,g3];simp only[cV1]
   cases b1 with
   | false=>exact⟨s1,false,oJ hsp g1,(fun q=>by cases q),rfl⟩
   | true=>
    obtain⟨s',b',h1,h2,h3⟩:=ih' s1 (g2 rfl);refine⟨s',b',wL hsp g1 h1,h2,?_⟩;rw[jV1,cond_false,w2];exact h3
  rw[dp (show(i:Int)<(m.length:Int) by omega),dp (show(0:Int)≤(i:Int) by omega),cond_true,cond_true,cond_true,w1,hP.er];by_cases c7:r.1=7
  ·obtain⟨L,k1,k2,k3⟩:=eD1 hP d a b hd ha hbm hF c7;rw[dp c7,cond_true,k3];simp only[cV1];exact fin L k1 (gJ _ fr en k2.1 k2.2)
  ·have c6:r.1=6:=by omega
   obtain⟨k1,k2,k3⟩:=hD1 hP d a b hd ha hbm hF c6;rw[dn c7,cond_false,jR hP _ htT];simp only[cV1];by_cases cin:inP r.2.1 s0 pr (d*86400+3600*a+60*b)
   ·rw[dp cin,cond_true,hP.ec,pT1 (K:=K) hP.oc _ _ (by omega) m _ _ s,xL hP (dN hP _) (zD1 hP _)];simp only[cV1];exact fin _ k1 (gJ _ fr en k2 (k3 cin))
   ·have e:memC (picP r.2.1 r.2.2.2.2.2.2.2.2.2.2.2.2.2.2.1 s0 F pr h m c) fr en (d*86400+3600*a+60*b) (d*86400+3600*a+60*b+60)=[]:=yC _ fr en fun x _ _ q1 q2 q=>by have q5:=q.1.2.2.1;unfold inP at cin q5;rw[hP.p6 c6 x q.1.1,show x/60=(d*86400+3600*a+60*b)/60 by omega,←hP.p6 c6 _ htT]at q5;exact cin q5
    rw[e,uV1]at hsp;obtain⟨s1,b1,g1,g2,g3⟩:=jI1 (K:=K) (fr:=fr) (en:=en) (L:=[]) (hV1 _) s hs;have g1:(s,true)=(s1,b1):=g1;obtain⟨rfl,rfl⟩:=Prod.mk.inj g1;obtain⟨s',b',h1,h2,h3⟩:=ih' s hs;refine⟨s',b',by rw[←hsp];exact h1,h2,?_⟩;rw[dn cin,cond_false,cA.l3a_eq,g3];simp only[cV1];rw[jV1,cond_false,w2];exact h3
theorem tU1 (d a:Int) (hd: -719162≤d∧d≤2932896) (ha:a∈h) (hF:F d=true) (hf:r.1=6∨r.1=7) (s:Int×Bool) (hs:invB K s):
  ∃s' b,run (yB K) s (memC (picP r.2.1 r.2.2.2.2.2.2.2.2.2.2.2.2.2.2.1 s0 F pr h m c) fr en (d*86400+3600*a) (d*86400+3600*a+3600))=(s',b)∧(b=true→invB K s') ∧
   cA.f P (d*86400+3600*a) ((fr,()),(en,()),(clB K s,()),())=some (b,((fr,()),(en,()),(clB K s',()),()),()):=by
 obtain⟨s',b,h1,h2,h3⟩:=fM1 hP (K:=K) (fr:=fr) (en:=en) d a hd ha hF hf m.length 0 (by omega) (hV1 _) s hs
 have e:memC (picP r.2.1 r.2.2.2.2.2.2.2.2.2.2.2.2.2.2.1 s0 F pr h m c) fr en (d*86400+3600*a) (d*86400+3600*a+3600)=memC (fun x=>picP r.2.1 r.2.2.2.2.2.2.2.2.2.2.2.2.2.2.1 s0 F pr h m c x∧(x-(d*86400+3600*a))/60∈m.drop 0) fr en (d*86400+3600*a) (d*86400+3600*a+3600):=sF _ fr en fun x _ _=>by
  rw[fW1];constructor
  ·rintro⟨q,q1,q2⟩;exact⟨⟨q,((mK hP d a x hd ha hF q1 q2).1 q.1).1⟩,q1,q2⟩
  ·rintro⟨⟨q,_⟩,q1⟩;exact⟨q,q1⟩
 refine⟨s',b,by rw[e];exact h1,h2,?_⟩;rw[oV1]at h3;rw[cA.f_eq,hP.em];exact h3
theorem hR1 (d:Int) (hd: -719162≤d∧d≤2932896) (hF:F d=true) (hf:4<r.1):∀(n i:Nat),h.length-i=n→i≤h.length → ∀s:Int×Bool,invB K s →
  ∃s' b,run (yB K) s (memC (fun x=>picP r.2.1 r.2.2.2.2.2.2.2.2.2.2.2.2.2.2.1 s0 F pr h m c x∧(x-d*86400)/3600∈h.drop i) fr en (d*86400) (d*86400+86400))=(s',b)∧(b=true→invB K s') ∧
   jA.l1 (d*86400) h (h.length:Int) (i:Int) fr en K s.1 s.2 P=some (b,((fr,()),(en,()),(clB K s',()),()),()):=by
 have lh:=hP.oh.2.2;have hfr7:=hP.fr;intro n
 induction n with
 | zero=>
  intro i hn hi s hs;have e:i=h.length:=by omega
  subst e;refine⟨s,true,by rw[yC _ fr en (fun x _ _ _ _ q=>by rw[iW1]at q;exact absurd q.2 (by simp))];rfl,fun _=>hs,?_⟩;rw[jA.l1_eq];simp(disch:=omega)only[ss]
 | succ n ih=>
  intro i hn hi s hs;have hlt:i<h.length:=by omega
  have ih':=ih (i+1) (by omega) (by omega);rw[pV1,qV1]at ih';have hbm:=eE hlt;have hb0:=hP.oh.2.1 _ hbm;have hrd:Rise (h.drop i):=List.Pairwise.sublist (List.drop_sublist i h) hP.oh.1;rw[tB 0 hlt]at hrd ⊢;have hgb:h.getD (i:Int).toNat 0=h.getD i 0:=by rw[xV1]
  rw[jA.l1_eq,hgb];generalize h.getD i 0=a at hbm hb0 hrd ⊢;have hsp:=rN (picP r.2.1 r.2.2.2.2.2.2.2.2.2.2.2.2.2.2.1 s0 F pr h m c) fr en (a:=a) (l:=h.drop (i+1)) (lo:=d*86400) (hi:=d*86400+86400) (a1:=d*86400+3600*a) (a2:=d*86400+3600*a+3600)
   (fun x=>(x-d*86400)/3600) hrd (fun x y q=>by omega) (fun x _=>by constructor <;> intro q <;> omega)
  have w1:w6 (d*86400+w6 ((3600:Int)*a))=d*86400+3600*a:=by rw[wr (x:=(3600:Int)*a) (by omega) (by omega),wr (by omega) (by omega)]
  have w2:w6 ((i:Int)+1)=(i:Int)+1:=wr (by omega) (by omega);have htT:inT (d*86400+3600*a):=by unfold inT;omega
  rw[dp (show(i:Int)<(h.length:Int) by omega),dp (show(0:Int)≤(i:Int) by omega),cond_true,cond_true,cond_true,w1,w2,hP.er];by_cases c5:r.1>5
  ·obtain⟨s1,b1,g1,g2,g3⟩:=tU1 hP (K:=K) (fr:=fr) (en:=en) d a hd hbm hF (by omega) s hs;rw[dp c5,cond_true,g3];simp only[cV1]
   cases b1 with
   | false=>exact⟨s1,false,oJ hsp g1,(fun q=>by cases q),rfl⟩
   | true=>
    obtain⟨s',b',h1,h2,h3⟩:=ih' s1 (g2 rfl);refine⟨s',b',wL hsp g1 h1,h2,?_⟩;rw[jV1,cond_false];exact h3
  ·have c5':r.1=5:=by omega
   obtain⟨k1,k2,k3⟩:=sJ1 hP d a hd hbm hF c5';rw[dn c5,cond_false,jR hP _ htT];simp only[cV1];by_cases cin:inP r.2.1 s0 pr (d*86400+3600*a)
   ·obtain⟨s1,b1,g1,g2,g3⟩:=jI1 (K:=K) (fr:=fr) (en:=en) k1 s hs;rw[gJ _ fr en k2 (k3 cin)]at g1;have hl2:=iJ1 (K:=K) (fr:=fr) (en:=en) (P:=P) hP.ec hP.om hP.oc (d*86400) (d*86400+3600*a) (by omega) h (h.length:Int) (i:Int) s m.length 0 (by omega) (hV1 _) [] (hV1 _);rw[oV1,fW1,uV1]at hl2;have hpk:=xL hP (kJ hP.om.1 hP.oc.1 hP.oc.2.1 (d*86400+3600*a)) (yW1 (gT hP _) (by decide));unfold qV at hpk g3 k1 k2 k3;rw[dp cin,jV1,cond_false,hP.em,hl2,jA.l2_eq,dn (show ¬(m.length:Int)<(m.length:Int) by omega),cond_false,hpk];simp only[cV1];rw[g3];simp only[cV1]
    cases b1 with
    | false=>exact⟨s1,false,oJ hsp g1,(fun q=>by cases q),rfl⟩
    | true=>
     obtain⟨s',b',h1,h2,h3⟩:=ih' s1 (g2 rfl);refine⟨s',b',wL hsp g1 h1,h2,?_⟩;rw[jV1,cond_false,w2];exact h3
   ·have e:memC (picP r.2.1 r.2.2.2.2.2.2.2.2.2.2.2.2.2.2.1 s0 F pr h m c) fr en (d*86400+3600*a) (d*86400+3600*a+3600)=[]:=yC _ fr en fun x _ _ q1 q2 q=>by have q5:=q.1.2.2.1;unfold inP at cin q5;rw[hP.p5 c5' x q.1.1,show x/3600=(d*86400+3600*a)/3600 by omega,←hP.p5 c5' _ htT]at q5;exact cin q5
    rw[e,uV1]at hsp;obtain⟨s',b',h1,h2,h3⟩:=ih' s hs;refine⟨s',b',by rw[←hsp];exact h1,h2,?_⟩;rw[dn cin,qW1,cond_true];exact h3
theorem hrsB (d:Int) (hd: -719162≤d∧d≤2932896) (hF:F d=true) (hf:4<r.1) (s:Int×Bool) (hs:invB K s):
  ∃s' b,run (yB K) s (memC (picP r.2.1 r.2.2.2.2.2.2.2.2.2.2.2.2.2.2.1 s0 F pr h m c) fr en (d*86400) ((d+1)*86400))=(s',b)∧(b=true→invB K s') ∧
   jA.f P (d*86400) ((fr,()),(en,()),(clB K s,()),())=some (b,((fr,()),(en,()),(clB K s',()),()),()):=by
 obtain⟨s',b,h1,h2,h3⟩:=hR1 hP (K:=K) (fr:=fr) (en:=en) d hd hF hf h.length 0 (by omega) (hV1 _) s hs
 have e:memC (picP r.2.1 r.2.2.2.2.2.2.2.2.2.2.2.2.2.2.1 s0 F pr h m c) fr en (d*86400) ((d+1)*86400)=memC (fun x=>picP r.2.1 r.2.2.2.2.2.2.2.2.2.2.2.2.2.2.1 s0 F pr h m c x∧(x-d*86400)/3600∈h.drop 0) fr en (d*86400) (d*86400+86400):=sF _ fr en fun x _ _=>by
  rw[fW1];constructor
  ·rintro⟨q,q1,q2⟩;have:=((fT hP.om.2.1 hP.oc.2.1 _).1 q.1.2.1).1;rw[show x%86400/3600=(x-d*86400)/3600 by omega]at this;exact⟨⟨q,this⟩,q1,by omega⟩
  ·rintro⟨⟨q,_⟩,q1,q2⟩;exact⟨q,q1,by omega⟩
 refine⟨s',b,by rw[e];exact h1,h2,?_⟩;rw[oV1]at h3;rw[jA.f_eq,hP.eh];exact h3
theorem wL1 (hf:4<r.1) (D:Int) (hD:D≤2932897):∀(n:Nat) (d:Int),(D+1-d).toNat=n → -800000≤d → ∀s:Int×Bool,invB K s →
  ∃s' b,run (yB K) s (memC (picP r.2.1 r.2.2.2.2.2.2.2.2.2.2.2.2.2.2.1 s0 F pr h m c) fr en (d*86400) ((D+1)*86400))=(s',b)∧rA.l1 D d fr en K s.1 s.2 P=some (((fr,()),(en,()),(clB K s',()),()),()):=by
 intro n
 induction n with
 | zero=>
  intro d hn hd s hs;refine⟨s,true,by rw[yC _ fr en (fun x _ _ h1 h2=>by omega)];rfl,?_⟩;rw[rA.l1_eq,dn (show ¬d≤D by omega),cond_false]
 | succ n ih=>
  intro d hn hd s hs;have hdD:d≤D:=by omega
  have hw:w6 (d+1)=d+1:=wr (by omega) (by omega);have hw2:w6 (d*86400)=d*86400:=wr (by omega) (by omega);have hsp:=jI (picP r.2.1 r.2.2.2.2.2.2.2.2.2.2.2.2.2.2.1 s0 F pr h m c) fr en (a:=d*86400) (b:=(d+1)*86400) (c:=(D+1)*86400) (by omega) (by omega);have ih':=ih (d+1) (by omega) (by omega);rw[rA.l1_eq,dp hdD,cond_true,fC.f_eq,hP.fits d];simp only[cV1]
  cases hF:F d with
  | false=>
   rw[yC _ fr en (fun x _ _ q1 q2 q=>by
    have q:=q.1.2.2.2;rw[show x/86400=d by omega,hF]at q
    cases q),uV1]at hsp
   obtain⟨s',b,h1,h2⟩:=ih' s hs;refine⟨s',b,by rw[←hsp];exact h1,?_⟩;rw[cond_false,rA.l2_eq,cond_false,hw];exact h2
  | true=>
   obtain⟨s1,b1,g1,g2,g3⟩:=hrsB hP (K:=K) (fr:=fr) (en:=en) d (hP.fin d hF) hF hf s hs;rw[cond_true,hw2,g3];simp only[cV1];rw[rA.l2_eq]
   cases b1 with
   | false=>exact⟨s1,false,oJ hsp g1,rfl⟩
   | true=>
    obtain⟨s',b,h1,h2⟩:=ih' s1 (g2 rfl);refine⟨s',b,wL hsp g1 h1,?_⟩;rw[jV1,cond_false,hw];exact h2
include hfr hen
theorem eU1 (hf:4<r.1) (hen2:en≤253402300800) (s:Int×Bool) (hs:invB K s):
  ∃s' b,run (yB K) s (memL (picP r.2.1 r.2.2.2.2.2.2.2.2.2.2.2.2.2.2.1 s0 F pr h m c) fr en)=(s',b)∧rA.f P fr en ((fr,()),(en,()),(clB K s,()),())=some (((fr,()),(en,()),(clB K s',()),()),()):=by
 have hd1:=(oD fr (by omega) (by omega)).1;have hd2:=(oD en (by omega) (by omega)).1;obtain⟨s',b,h1,h2⟩:=wL1 hP (K:=K) (fr:=fr) (en:=en) hf (en/86400) (by omega) _ (fr/86400) rfl (by omega) s hs;have e:memC (picP r.2.1 r.2.2.2.2.2.2.2.2.2.2.2.2.2.2.1 s0 F pr h m c) fr en fr en=memC (picP r.2.1 r.2.2.2.2.2.2.2.2.2.2.2.2.2.2.1 s0 F pr h m c) fr en (fr/86400*86400) ((en/86400+1)*86400):=sF _ fr en fun x q1 q2=>⟨fun q=>⟨q.1,by omega,by omega⟩,fun q=>⟨q.1,q1,q2⟩⟩
 rw[←oN,e];refine⟨s',b,h1,?_⟩;rw[rA.f_eq,hd1,hd2];exact h2
omit hfr hen
theorem hU1 (hu:r.2.2.2.2.2.1=true→inT r.2.2.2.1) (f0 e0:Int) (hf0: -63000000000≤f0∧f0≤300000000000) (he0: -63000000000≤e0∧e0≤253402300799) (s:Int×Bool) (hs:invB K s):
  oB.f P f0 e0 (clB K s)=some (clB K (run (yB K) s (memL (belP r.2.1 r.2.2.2.1 r.2.2.2.2.2.1 r.2.2.2.2.2.2.2.2.2.2.2.2.2.2.1 s0 F pr h m c) f0 e0)).1,()):=by
 have hS:=hP.inS;unfold inT at hS;have hgo:∀fr en:Int,s0≤fr → -63000000000≤fr∧fr≤300000000000 → -63000000000≤en∧en≤253402300800→memL (picP r.2.1 r.2.2.2.2.2.2.2.2.2.2.2.2.2.2.1 s0 F pr h m c) fr en=memL (belP r.2.1 r.2.2.2.1 r.2.2.2.2.2.1 r.2.2.2.2.2.2.2.2.2.2.2.2.2.2.1 s0 F pr h m c) f0 e0 →
   oB.l1 K s.1 s.2 P fr en=some (clB K (run (yB K) s (memL (belP r.2.1 r.2.2.2.1 r.2.2.2.2.2.1 r.2.2.2.2.2.2.2.2.2.2.2.2.2.2.1 s0 F pr h m c) f0 e0)).1,()):=by
  intro fr en h1 h2 h3 e;rw[oB.l1_eq,hP.er];by_cases c5:r.1<5
  ·obtain⟨s',b,g1,g2⟩:=rU1 hP (K:=K) h2 (by omega) (by omega) h1 h3.2 s hs;rw[dp c5,cond_true,g2];simp only[cV1];rw[←e,g1]
  ·obtain⟨s',b,g1,g2⟩:=eU1 hP (K:=K) h2 (by omega) (by omega) h3.2 s hs;rw[dn c5,cond_false,g2];simp only[cV1];rw[←e,g1]
 rw[oB.f_eq,hP.er,hP.es,kZ]
 cases hen:r.2.2.2.2.2.1 with
 | false=>
  rw[hen]at hgo;rw[cond_false];refine hgo _ _ (by omega) (by omega) (by omega) (eJ _ (cE _ _ _) fun x=>?_);rw[yD,dW];constructor
  ·rintro⟨q,q1,q2⟩;exact⟨⟨q,by omega,(fun z=>by cases z)⟩,by omega,q2⟩
  ·rintro⟨⟨q,q1,_⟩,q2,q3⟩;exact⟨q,by omega,q3⟩
 | true=>
  have hu:=hu hen;unfold inT at hu;rw[hen]at hgo;rw[cond_true,wr (x:=r.2.2.2.1+1) (by omega) (by omega),xT];refine hgo _ _ (by omega) (by omega) (by omega) (eJ _ (cE _ _ _) fun x=>?_);rw[yD,dW];constructor
  ·rintro⟨q,q1,q2⟩;exact⟨⟨q,by omega,fun _=>by omega⟩,by omega,by omega⟩
  ·rintro⟨⟨q,q1,q4⟩,q2,q3⟩;have:=q4 rfl;exact⟨q,by omega,by omega⟩
end
noncomputable def belR (r:Rl) (s:Int):Int→Prop:=
 belP r.2.1 r.2.2.2.1 r.2.2.2.2.2.1 r.2.2.2.2.2.2.2.2.2.2.2.2.2.2.1 s (tK r.1 r.2.2.2.2.1 r.2.2.2.2.2.2.1 r.2.2.2.2.2.2.2.1 r.2.2.2.2.2.2.2.2.1 r.2.2.2.2.2.2.2.2.2.1 r.2.2.2.2.2.2.2.2.2.2.1 s) (per r.1 r.2.2.2.2.1 r.2.2.2.2.2.2.2.1) (sJ r.1 r.2.2.2.2.2.2.2.2.2.2.2.1 s) (tP r.1 r.2.2.2.2.2.2.2.2.2.2.2.2.1 s) (xP r.1 r.2.2.2.2.2.2.2.2.2.2.2.2.2.1 s)
noncomputable def memR (r:Rl) (s e:Int):List Int:=memL (belR r s) s e
noncomputable def LS (r:Rl) (s e:Int):List Int:=if r.2.2.1>0 then(memR r s e).take r.2.2.1.toNat else memR r s e
def okE (s e:Int):Prop:=inT s∧inT e∧(s<e→e-s≤316224000)
theorem zQ (r:Rl) (hr:mG r) (hm:mA.f r=some (true,())) (s:Int) (hs:inT s):∃P:PlT,cD.f r s=some (P,true,()) ∧
  PlanOK P r s (tK r.1 r.2.2.2.2.1 r.2.2.2.2.2.2.1 r.2.2.2.2.2.2.2.1 r.2.2.2.2.2.2.2.2.1 r.2.2.2.2.2.2.2.2.2.1 r.2.2.2.2.2.2.2.2.2.2.1 s) (per r.1 r.2.2.2.2.1 r.2.2.2.2.2.2.2.1) (sJ r.1 r.2.2.2.2.2.2.2.2.2.2.2.1 s) (tP r.1 r.2.2.2.2.2.2.2.2.2.2.2.2.1 s) (xP r.1 r.2.2.2.2.2.2.2.2.2.2.2.2.2.1 s):=by
 obtain⟨f,iv,ct,un,wkst,en,mo,we,yd,md,dy,ho,mi,se,po,⟨⟩⟩:=r;exact bQ1 f iv ct un wkst en mo we yd md dy ho mi se po s hr hm hs
theorem jA1 {r:Rl} {s e:Int} {P:PlT} (hMk:cD.f r s=some (P,true,())) (h:okE s e):cC.f r s e=some (P,true,()):=by
 obtain⟨h1,h2,h3⟩:=h;rw[cC.f_eq,hMk,(tH e).1];unfold inT at h1 h2;by_cases c:e>s
 ·simp(disch:=omega)only[ss,cC.l1_eq]
 ·simp(disch:=omega)only[ss,cC.l1_eq]
theorem rJ1 {r:Rl} {s e:Int} {P:PlT} {b:Bool} (hMk:cD.f r s=some (P,b,())) (hb:b=true→inT s) (h:¬(b=true∧okE s e)):∃Q,cC.f r s e=some (Q,false,()):=by
 rw[cC.f_eq,hMk,(tH e).1];simp only[cV1]
 cases b with
 | false=>exact⟨_,by rw[qW1,cond_true,cC.l1_eq,cond_true]⟩
 | true=>
  have h1:=hb rfl;rw[jV1,cond_false];by_cases c2:inT e
  ·unfold inT at h1 c2;have c3:s<e∧e-s>316224000:=by
    refine Classical.byContradiction fun q=>h ⟨rfl,h1,c2,fun z=>?_⟩
    omega
   rw[dp c2,jV1,cond_false,dp (show e>s from c3.1),cond_true,wr (by omega) (by omega),dp c3.2,cC.l1_eq,cond_true];exact⟨_,rfl⟩
  ·unfold inT at c2;rw[dn c2,qW1,cond_true,cC.l1_eq,cond_true];exact⟨_,rfl⟩
theorem wV {r:Rl} (hr:mG r) (hm:mA.f r=some (true,())):(0≤r.2.2.1∧r.2.2.1≤4096)∧(r.2.2.2.2.2.1=true→inT r.2.2.2.1)∧(1≤r.2.1∧r.2.1≤1000)∧(1≤r.1∧r.1≤7):=by have hp:=(uQ1 hr hm).1;unfold numP at hp;exact⟨⟨hp.1.2.2.2.2.1,hp.1.2.2.2.2.2.1⟩,fun q=>(hp.2.1 q).1,⟨hp.1.2.2.1,hp.1.2.2.2.1⟩,⟨hp.1.1,hp.1.2.1⟩⟩
section
variable {r : Rl} {s e : Int} (hr : mG r) (hm : mA.f r = some (true, ())) (ho : okE s e)
include hr hm ho
theorem wX {P:PlT} (hMk:cD.f r s=some (P,true,())) (M:Int) (h1:1≤M) (h2:M≤100000):aD.f P r s e M=some ((memR r s e).take (if r.2.2.1>0 then min M r.2.2.1 else M).toNat,()):=by
 obtain⟨P',hMk',hP⟩:=zQ r hr hm s ho.1;have e1:P'=P:=by rw[hMk]at hMk';exact(congrArg Prod.fst (kW1 hMk')).symm
 subst e1;have hn:=wV hr hm;obtain⟨g1,g2,g3⟩:=ho;unfold inT at g1 g2;have key:∀K:Int,1≤K→K≤100000→aD.l1 s e P' K []=some ((memR r s e).take K.toNat,()):=by intro K k1 k2;have hw:=yU1 hP (K:=K) hn.2.1 s e (by omega) (by omega) [] (by unfold invA;simp;omega);have hrun:=wR1 K.toNat (memR r s e) [] (by simp;omega);rw[show((K.toNat:Nat):Int)=K by omega]at hrun;rw[aD.l1_eq];show((zB.f P' s e (clA K [])).bind fun t1=>some (t1.1.1.1,()))=_;rw[hw];simp only[cV1];show some ((run (yesF K) [] (memR r s e)).1,())=_;rw[hrun];rfl
 rw[aD.f_eq];by_cases c:r.2.2.1>0
 ·rw[dp c,cond_true,if_pos c,xT];exact key _ (by omega) (by omega)
 ·rw[dn c,cond_false,if_neg c];exact key _ h1 h2
theorem nB1 (most:Int) (h1:1≤most) (h2:most≤4096):dD.f r s e most=some (if((LS r s e).length:Int)>most then([],10,())else(LS r s e,0,())):=by
 obtain⟨P,hMk,hP⟩:=zQ r hr hm s ho.1;have hn:=wV hr hm;have hF:=wX hr hm ho hMk (most+1) (by omega) (by omega);have hw:w6 (most+1)=most+1:=wr (by omega) (by omega);rw[dD.f_eq,jA1 hMk ho];simp only[cV1];rw[jV1,cond_false,dn (show ¬most<1 by omega),cond_false,dn (show ¬most>4096 by omega),cond_false,hw,hF];simp only[cV1];unfold LS;generalize memR r s e=M;by_cases c:r.2.2.1>0
 ·rw[if_pos c,if_pos c];by_cases c2:((M.take r.2.2.1.toNat).length:Int)>most
  ·rw[if_pos c2,dp,cond_true];rw[aW1]at c2 ⊢;omega
  ·have e2:M.take (min (most+1) r.2.2.1).toNat=M.take r.2.2.1.toNat:=by
    rw[aW1]at c2;by_cases c3:r.2.2.1≤most
    ·rw[show min (most+1) r.2.2.1=r.2.2.1 by omega]
    ·rw[lV1 (by omega),lV1 (by omega)]
   rw[if_neg c2,e2,dn c2,cond_false]
 ·rw[if_neg c,if_neg c];by_cases c2:(M.length:Int)>most
  ·rw[if_pos c2,dp,cond_true];rw[aW1];omega
  ·rw[if_neg c2,lV1 (by omega),dn c2,cond_false]
theorem zQ1 (L:List Int) (hl:L.length≤1000000) (after:Int):∀(n i:Nat),L.length-i=n→i≤L.length→qC.l1 L (L.length:Int) (i:Int) after=some (match(L.drop i).find? (fun x=>decide (x>after))with | some t=>(t,true,()) | none=>(0,false,())):=by
 have _:=hr;have _:=hm;have _:=ho;intro n
 induction n with
 | zero=>
  intro i hn hi;have e1:i=L.length:=by omega
  subst e1;rw[qC.l1_eq,iW1];simp(disch:=omega)only[ss];rfl
 | succ n ih=>
  intro i hn hi;have hlt:i<L.length:=by omega
  have ih':=ih (i+1) (by omega) (by omega);rw[pV1,qV1]at ih';rw[qC.l1_eq,xV1,tB 0 hlt,List.find?_cons];generalize L.getD i 0=x;by_cases c:x>after
  ·rw[dp c];simp(disch:=omega)only[ss]
  ·rw[dn c];simp(disch:=omega)only[ss];exact ih'
theorem mQ1 (after:Int):qC.f r s after e=some (match(LS r s e).find? (fun x=>decide (x>after))with | some t=>(t,true,()) | none=>(0,false,())):=by
 obtain⟨P,hMk,hP⟩:=zQ r hr hm s ho.1;have hn:=wV hr hm;rw[qC.f_eq,jA1 hMk ho];simp only[cV1];rw[jV1,cond_false];unfold LS;by_cases c:r.2.2.1>0
 ·rw[if_pos c,dp c,cond_true,wX hr hm ho hMk r.2.2.1 (by omega) (by omega)];simp only[cV1];rw[if_pos c,show min r.2.2.1 r.2.2.1=r.2.2.1 by omega];have:=zQ1 hr hm ho ((memR r s e).take r.2.2.1.toNat) (by rw[aW1];omega) after _ 0 rfl (hV1 _);rw[oV1,fW1]at this;exact this
 ·have ho':=ho;obtain⟨g1,g2,g3⟩:=ho';unfold inT at g1 g2;rw[if_neg c,dn c,cond_false,xT,kZ];obtain⟨f0,hf0⟩:∃f0,max s (min after e)=f0:=⟨_,rfl⟩
  rw[hf0];have hw:=hU1 hP (K:=after) hn.2.1 f0 e (by omega) (by omega) (0,false) trivial
  have hfind:(memL (belR r s) f0 e).find? (fun x=>decide (x>after))=(memR r s e).find? (fun x=>decide (x>after)):=by
   unfold memR;by_cases cs:s≤e
   ·rw[←aU (belR r s) (a:=s) (b:=f0) (c:=e) (by omega) (by omega),List.find?_append]
    have:(memL (belR r s) s f0).find? (fun x=>decide (x>after))=none:=by rw[List.find?_eq_none];intro x hx;have:=(yD _).1 hx;rw[decide_eq_true_eq];omega
    rw[this];rfl
   ·rw[dK _ (by omega),dK _ (by omega)]
  show((oB.f P f0 e (clB after (0,false))).bind fun t3=>some (t3.1.2.1.1,t3.1.2.2.1.1,()))=_;rw[hw];simp only[cV1];show some ((run (yesN after) (0,false) (memL (belR r s) f0 e)).1.1,(run (yesN after) (0,false) (memL (belR r s) f0 e)).1.2,())=_;rw[wS1,←hfind];cases(memL (belR r s) f0 e).find? (fun x=>decide (x>after)) <;> rfl
end
theorem cO1 {r:Rl} {s e:Int} {bm:Bool} (hr:mG r) (hm:mA.f r=some (bm,())) (h:¬(bm=true∧okE s e)):(∀most,dD.f r s e most=some ([],1,())) ∧ ∀after,qC.f r s after e=some (0,false,()):=by
 have hQ:∃Q,cC.f r s e=some (Q,false,()):=by
  by_cases c:bm=true∧inT s
  ·obtain⟨rfl,hs⟩:=c;obtain⟨P,hMk,hP⟩:=zQ r hr hm s hs;exact rJ1 hMk (fun _=>hs) h
  ·obtain⟨P,hMk⟩:=sP1 r s bm hm c;exact rJ1 hMk (fun q=>by cases q) (fun q=>by cases q.1)
 obtain⟨Q,hQ⟩:=hQ;constructor
 ·intro most;rw[dD.f_eq,hQ];rfl
 ·intro after;rw[qC.f_eq,hQ];rfl
theorem wW {r:Rl} {s e t:Int}:t∈memR r s e↔belR r s t∧t<e:=by unfold memR;rw[yD];exact⟨fun q=>⟨q.1,q.2.2⟩,fun q=>⟨q.1,q.1.2.1,q.2⟩⟩
theorem eZ (r:Rl) (s e:Int):Rise (memR r s e):=cE _ _ _
theorem uS1 {r:Rl} {s e t:Int} (h:t∈LS r s e):belR r s t∧s≤t∧t<e:=by
 have h:t∈memR r s e:=by
  unfold LS at h;split at h
  ·exact List.mem_of_mem_take h
  ·exact h
 have:=wW.1 h;exact⟨this.1,this.1.2.1,this.2⟩
theorem vP1 (a:List Int) (hl:a.length≤1000000):∀(k i:Nat),a.length-i=k→xB.l1 a a i=some (true,()):=by
 intro k
 induction k with
 | zero=>
  intro i hk;rw[xB.l1_eq];simp(disch:=omega)only[ss]
 | succ k ih=>
  intro i hk;have h:=ih (i+1) (by omega);rw[pV1,qV1]at h;rw[xB.l1_eq];simp(disch:=omega)only[ss];exact h
theorem jG (a:List Int) (hl:a.length≤1000000):xB.f a a=some (true,()):=by have h:=vP1 a hl a.length 0 (by omega);rw[oV1]at h;rw[xB.f_eq];simp(disch:=omega)only[ss];exact h
theorem sF1 (r:Rl) (s e:Int):∃b,bC.f r s e=some (b,())∧(b=true→mG r):=by
 obtain⟨b,hb,hsh⟩:=dN1 r;have hl1:b=true → ∃b',bC.l1 s e true r=some (b',())∧(b'=true→mG r):=fun h=>⟨b,by rw[bC.l1_eq,cond_true,hb];rfl,hsh⟩
 rw[bC.f_eq,hb];simp only[cV1]
 cases b with
 | false=>
  rw[qW1,cond_true,bC.l1_eq,cond_true,hb];exact⟨false,rfl,fun q=>by cases q⟩
 | true=>
  have hr:=hsh rfl;obtain⟨bm,hm⟩:=sQ r hr;have h1:=hl1 rfl;rw[jV1,cond_false,hm];simp only[cV1]
  cases bm with
  | false=>rw[qW1,cond_true];exact h1
  | true=>
   rw[jV1,cond_false,(tH s).1,(tH e).1];simp only[cV1];by_cases c1:inT s
   ·by_cases c2:inT e
    ·unfold inT at c1 c2;rw[dp c1,jV1,cond_false,dp c2,jV1,cond_false];by_cases c3:e≤s
     ·rw[dp c3];exact h1
     ·obtain⟨k,hk⟩:=mK1 r s (w6 (w6 (Int.tdiv (w6 (e-s)) 86400)+2)) hr;rw[dn c3,bC.l1_eq,cond_false,hk];exact⟨_,rfl,fun _=>hr⟩
    ·unfold inT at c1 c2;rw[dp c1,jV1,cond_false,dn c2,qW1,cond_true];exact h1
   ·unfold inT at c1;rw[dn c1,qW1,cond_true];exact h1
def wkR (ct after most:Int):List Int→Int→List Int→List Int
 | [],_,acc=>acc
 | x::X,n,acc=>if n=ct∧ct>0 then acc else if((if x>after then acc++[x]else acc).length:Int)>most then(if x>after then acc++[x]else acc)else wkR ct after most X (n+1) (if x>after then acc++[x]else acc)
theorem bC1 (ct after most:Int) (hc:0≤ct) (hm:0≤most):∀(X:List Int) (n:Int) (acc:List Int),(acc.length:Int)≤most→0≤n→(ct>0→n≤ct) →
  wkR ct after most X n acc=(acc++((if ct>0 then X.take (ct-n).toNat else X).filter fun x=>decide (x>after))).take (most.toNat+1)
 | [],n,acc,h1,h2,h3=>by
  have:(if ct>0 then([]:List Int).take (ct-n).toNat else [])=[]:=by split <;> simp
  rw[this,List.filter_nil,sV1,lV1 (by omega)];rfl
 | x::X,n,acc,h1,h2,h3=>by
  rw[wkR];by_cases c:n=ct∧ct>0
  ·rw[if_pos c,if_pos c.2,show(ct-n).toNat=0 by omega,List.take_zero,List.filter_nil,sV1,lV1 (by omega)]
  ·have e1:(if ct>0 then(x::X).take (ct-n).toNat else x::X)=x::(if ct>0 then X.take (ct-(n+1)).toNat else X):=by
    by_cases c2:ct>0
    ·have:=h3 c2;rw[if_pos c2,if_pos c2,show(ct-n).toNat=(ct-(n+1)).toNat+1 by omega,List.take_succ_cons]
    ·rw[if_neg c2,if_neg c2]
   have h3':ct>0→n+1≤ct:=fun q=>by have:=h3 q;omega
   rw[if_neg c,e1,List.filter_cons];by_cases ca:x>after
   ·rw[if_pos ca,dp ca,if_pos rfl];have hl:(acc++[x]).length=acc.length+1:=tF _ _;by_cases cm:((acc++[x]).length:Int)>most
    ·rw[if_pos cm,show acc++x::List.filter (fun x=>decide (x>after)) (if ct>0 then X.take (ct-(n+1)).toNat else X)=(acc++[x])++List.filter (fun x=>decide (x>after)) (if ct>0 then X.take (ct-(n+1)).toNat else X) by simp,lX1 (by omega),lV1 (by omega)]
    ·rw[if_neg cm,bC1 ct after most hc hm X (n+1) (acc++[x]) (by omega) (by omega) h3',nV1];rfl
   ·rw[if_neg ca,if_neg (show ¬(acc.length:Int)>most by omega),dn ca,if_neg (by simp)];exact bC1 ct after most hc hm X (n+1) acc h1 (by omega) h3'
section
variable {P : PlT} {r : Rl} {s : Int} {F : Int → Bool} {pr : Int → Int} {h m c : List Int} (hP : PlanOK P r s F pr h m c) (hV : RefOK r s F pr h m c)
variable (e after most : Int) (hE : inT e) (hmost : 0 ≤ most ∧ most ≤ 4096)
abbrev belW (r:Rl) (s:Int) (F:Int→Bool) (pr:Int→Int) (h m c:List Int):Int→Prop:=belP r.2.1 r.2.2.2.1 r.2.2.2.2.2.1 r.2.2.2.2.2.2.2.2.2.2.2.2.2.2.1 s F pr h m c
include hmost in
theorem tT1 (last n t counted:Int) (l:List Int) (i:Nat) (hi:i<1000000) (acc X:List Int) (hacc:(acc.length:Int)≤most) (hcnt:0≤counted∧counted≤1000000000000)
  (hk:∀acc',(acc'.length:Int)≤most→aA.l2 s e after most last (counted+1) n l ((i:Int)+1) r acc'=some (wkR r.2.2.1 after most X (counted+1) acc',())):
  aA.l7 s e after most last counted n l (i:Int) t r acc=some (wkR r.2.2.1 after most (t::X) counted acc,()):=by
 have hlim:eD=17179869184:=rfl
 have l8f:¬(counted=r.2.2.1∧r.2.2.1>0)→aA.l8 s e after most last counted n l (i:Int) t false r acc=some (wkR r.2.2.1 after most (t::X) counted acc,()):=fun cc=>by
  rw[aA.l8_eq,cond_false,aA.l9_eq,wkR,if_neg cc];by_cases ca:t>after
  ·have hl:(acc++[t]).length=acc.length+1:=tF _ _;rw[if_pos ca,dp ca];by_cases cm:((acc++[t]).length:Int)>most
   ·rw[if_pos cm];simp(disch:=omega)only[ss,mW1,hlim,aA.l10_eq,hl]
   ·rw[if_neg cm];simp(disch:=omega)only[ss,mW1,hlim,aA.l10_eq,hl];exact hk _ (by omega)
  ·rw[if_neg ca,dn ca,if_neg (by omega)];simp(disch:=omega)only[ss,aA.l10_eq];exact hk acc hacc
 rw[aA.l7_eq];by_cases c1:counted=r.2.2.1
 ·rw[dp c1,cond_true];by_cases c2:r.2.2.1>0
  ·rw[dp c2,aA.l8_eq,cond_true,wkR,if_pos ⟨c1,c2⟩]
  ·rw[dn c2];exact l8f fun q=>c2 q.2
 ·rw[dn c1,cond_false];exact l8f fun q=>c1 q.1
include hmost in
theorem pR1 (S:List Int) (last n t counted:Int) (l:List Int) (i:Nat) (hi:i<1000000) (acc X:List Int) (hacc:(acc.length:Int)≤most) (hcnt:0≤counted∧counted≤1000000000000)
  (hk:∀acc',(acc'.length:Int)≤most→aA.l2a s e after most S last (counted+1) n l ((i:Int)+1) r acc'=some (wkR r.2.2.1 after most X (counted+1) acc',())):
  aA.l7a s e after most S last counted n l (i:Int) t r acc=some (wkR r.2.2.1 after most (t::X) counted acc,()):=by
 have hlim:eD=17179869184:=rfl
 have l8f:¬(counted=r.2.2.1∧r.2.2.1>0)→aA.l8a s e after most S last counted n l (i:Int) t false r acc=some (wkR r.2.2.1 after most (t::X) counted acc,()):=fun cc=>by
  rw[aA.l8a_eq,cond_false,aA.l9a_eq,wkR,if_neg cc];by_cases ca:t>after
  ·have hl:(acc++[t]).length=acc.length+1:=tF _ _;rw[if_pos ca,dp ca];by_cases cm:((acc++[t]).length:Int)>most
   ·rw[if_pos cm];simp(disch:=omega)only[ss,mW1,hlim,aA.l10a_eq,hl]
   ·rw[if_neg cm];simp(disch:=omega)only[ss,mW1,hlim,aA.l10a_eq,hl];exact hk _ (by omega)
  ·rw[if_neg ca,dn ca,if_neg (by omega)];simp(disch:=omega)only[ss,aA.l10a_eq];exact hk acc hacc
 rw[aA.l7a_eq];by_cases c1:counted=r.2.2.1
 ·rw[dp c1,cond_true];by_cases c2:r.2.2.1>0
  ·rw[dp c2,aA.l8a_eq,cond_true,wkR,if_pos ⟨c1,c2⟩]
  ·rw[dn c2];exact l8f fun q=>c2 q.2
 ·rw[dn c1,cond_false];exact l8f fun q=>c1 q.1
theorem yY (n:Int) (hn:n*86400<e):memL (belW r s F pr h m c) (n*86400) e =
  ((memL (rawP r.2.1 s F pr h m c) (n*86400) (n*86400+86400)).filter fun x=>ind (belW r s F pr h m c x)&&decide (x<e))++memL (belW r s F pr h m c) ((n+1)*86400) e:=by
 have hm:=fun x=>yD (rawP r.2.1 s F pr h m c) (a:=n*86400) (b:=n*86400+86400) (x:=x)
 refine(eJ _ (bK.2 ⟨List.Pairwise.sublist aY1 (cE _ _ _),cE _ _ _,fun x hx y hy=>?_⟩) fun x=>?_).symm
 ·have h1:=(hm x).1 (jX1.1 hx).1;have h2:=(yD _).1 hy;omega
 ·rw[gW1,jX1,hm,yD,dV1,fH,decide_eq_true_eq];constructor
  ·rintro(⟨⟨q1,q2,q3⟩,q4,q5⟩ | ⟨q1,q2,q3⟩)
   ·exact⟨q4,q2,q5⟩
   ·exact⟨q1,by omega,q3⟩
  ·rintro⟨q1,q2,q3⟩;by_cases c1:x<n*86400+86400
   ·exact .inl ⟨⟨q1.1,q2,c1⟩,q1,q3⟩
   ·exact .inr ⟨q1,by omega,q3⟩
def aL1 (r:Rl) (s:Int) (F:Int→Bool) (pr:Int→Int) (h m c S:List Int) (k:Int):Prop:=
 ∀u,inT u→pr u=k→dC.f r S u=some (ind (∃G:List Int,Rise G∧(∀x,x∈G↔rawP r.2.1 s F pr h m c x∧pr x=pr u)∧qY r.2.2.2.2.2.2.2.2.2.2.2.2.2.2.1 (G.take 100001) u),())
include hmost in
theorem l6_a (hpo:r.2.2.2.2.2.2.2.2.2.2.2.2.2.2.1≠[]) (n t counted:Int) (l:List Int) (i:Nat) (hi:i<1000000) (acc D Y:List Int) (hx:rawP r.2.1 s F pr h m c t) (hs:s≤t) (ht:t<e) (hu:r.2.2.2.2.2.1=true→t≤r.2.2.2.1)
  (hacc:(acc.length:Int)≤most) (hc0:0≤counted) (hcnt:counted+((if(ind (belW r s F pr h m c t)&&decide (t<e))=true then t::D else D)++Y).length≤1000000000000) (S:List Int) (last:Int) (hS:aL1 r s F pr h m c S last) (he:pr t=last)
  (ihn:∀(counted:Int) (acc:List Int),(acc.length:Int)≤most→0≤counted→counted+(D++Y).length≤1000000000000→aA.l2a s e after most S last counted n l ((i:Int)+1) r acc=some (wkR r.2.2.1 after most (D++Y) counted acc,())):
  aA.l6 s e after most S last counted n l (i:Int) t r acc=some (wkR r.2.2.1 after most ((if(ind (belW r s F pr h m c t)&&decide (t<e))=true then t::D else D)++Y) counted acc,()):=by
 rw[aA.l6_eq,hS t hx.1 he];simp only[cV1];by_cases cb:∃G:List Int,Rise G∧(∀x,x∈G↔rawP r.2.1 s F pr h m c x∧pr x=pr t)∧qY r.2.2.2.2.2.2.2.2.2.2.2.2.2.2.1 (G.take 100001) t
 ·have hbt:belW r s F pr h m c t:=⟨hx,hs,hu,.inr cb⟩
  have hf:(ind (belW r s F pr h m c t)&&decide (t<e))=true:=by rw[dV1,fH,decide_eq_true_eq];exact⟨hbt,ht⟩
  rw[if_pos hf]at hcnt ⊢;rw[iW cb,jV1,cond_false,uX1];rw[uX1,eW1]at hcnt;exact pR1 e after most hmost S last n t counted l i hi acc _ hacc ⟨hc0,by omega⟩ fun acc' ha'=>ihn (counted+1) acc' ha' (by omega) (by omega)
 ·have hf:¬(ind (belW r s F pr h m c t)&&decide (t<e))=true:=by
   rw[dV1,fH,decide_eq_true_eq];rintro⟨⟨_,_,_,q | q⟩,_⟩
   ·exact hpo q
   ·exact cb q
  rw[if_neg hf]at hcnt ⊢;rw[sP cb,qW1,cond_true];simp(disch:=omega)only[ss];exact ihn counted acc hacc hc0 hcnt
include hP hV hmost
theorem iI1 (hpo:r.2.2.2.2.2.2.2.2.2.2.2.2.2.2.1≠[]) (n:Int) (hn: -719162≤n∧n≤3000000) (l:List Int) (hlen:l.length≤86400) (hmem:∀x∈l,rawP r.2.1 s F pr h m c x) (Y:List Int)
  (hnext:∀(S:List Int) (last counted:Int) (acc:List Int),aL1 r s F pr h m c S last→(acc.length:Int)≤most→0≤counted→counted+Y.length≤1000000000000→aA.l1a s e after most S last counted (n+1) r acc=some (wkR r.2.2.1 after most Y counted acc,())):
  ∀(q i:Nat),l.length-i=q→i≤l.length → ∀(S:List Int) (last counted:Int) (acc:List Int),aL1 r s F pr h m c S last→(acc.length:Int)≤most→0≤counted→counted+(((l.drop i).filter fun x=>ind (belW r s F pr h m c x)&&decide (x<e))++Y).length≤1000000000000 →
   aA.l2a s e after most S last counted n l (i:Int) r acc=some (wkR r.2.2.1 after most (((l.drop i).filter fun x=>ind (belW r s F pr h m c x)&&decide (x<e))++Y) counted acc,()):=by
 have lp:=hP.lp;intro q
 induction q with
 | zero=>
  intro i hq hi S last counted acc hS hacc hc0 hcnt;have e0:i=l.length:=by omega
  subst e0;rw[iW1,List.filter_nil,uV1]at hcnt ⊢;rw[aA.l2a_eq];simp(disch:=omega)only[ss];exact hnext S last counted acc hS hacc hc0 hcnt
 | succ q ihq=>
  intro i hq hi S last counted acc hS hacc hc0 hcnt;have hlt:i<l.length:=by omega
  have hx:=hmem _ (eE hlt);rw[tB 0 hlt,List.filter_cons]at hcnt ⊢;rw[aA.l2a_eq,xV1];generalize l.getD i 0=t at hx hcnt ⊢;have ihn:=fun S last counted acc=>ihq (i+1) (by omega) (by omega) S last counted acc
  rw[pV1,qV1]at ihn;generalize (l.drop (i+1)).filter (fun x=>ind (belW r s F pr h m c x)&&decide (x<e))=D at hcnt ihn ⊢;have hit:inT t:=hx.1;obtain⟨R,hR⟩:∃R,R=some (wkR r.2.2.1 after most ((if(ind (belW r s F pr h m c t)&&decide (t<e))=true then t::D else D)++Y) counted acc,()):=⟨_,rfl⟩
  rw[←hR]
  have skip:¬(belW r s F pr h m c t∧t<e)→aA.l3a s e after most S last counted n l (i:Int) t true r acc=R:=fun hno=>by
   rw[hR];have hf:¬(ind (belW r s F pr h m c t)&&decide (t<e))=true:=by rw[dV1,fH,decide_eq_true_eq];exact hno
   rw[if_neg hf]at hcnt ⊢;rw[aA.l3a_eq,cond_true];simp(disch:=omega)only[ss];exact ihn S last counted acc hS hacc hc0 hcnt
  by_cases c1:t<s
  ·simp(disch:=omega)only[ss];exact skip fun q=>by have:=q.1.2.1;omega
  ·by_cases c2:t≥e
   ·simp(disch:=omega)only[ss];exact skip fun q=>by omega
   ·have take:(r.2.2.2.2.2.1=true→t≤r.2.2.2.1)→aA.l3a s e after most S last counted n l (i:Int) t false r acc=R:=fun hu=>by
     rw[hR]
     have new:aA.l5a s e after most S last counted n l (i:Int) t (pr t) true r acc=some (wkR r.2.2.1 after most ((if(ind (belW r s F pr h m c t)&&decide (t<e))=true then t::D else D)++Y) counted acc,()):=by obtain⟨S',⟨cd,hs1⟩,hs2⟩:=xS hP hV t hit;rw[aA.l5a_eq,cond_true,hs1];simp only[cV1];exact l6_a e after most hmost hpo n t counted l i (by omega) acc D Y hx (by omega) (by omega) hu hacc hc0 hcnt S' (pr t) hs2 rfl fun c' a'=>ihn S' (pr t) c' a' hs2
     have old:aA.l5a s e after most S last counted n l (i:Int) t (pr t) (!decide (pr t=last)) r acc=some (wkR r.2.2.1 after most ((if(ind (belW r s F pr h m c t)&&decide (t<e))=true then t::D else D)++Y) counted acc,()):=by
      by_cases ck:pr t=last
      ·rw[dp ck,jV1,aA.l5a_eq,cond_false];exact l6_a e after most hmost hpo n t counted l i (by omega) acc D Y hx (by omega) (by omega) hu hacc hc0 hcnt S last hS ck fun c' a'=>ihn S last c' a' hS
      ·rw[dn ck,qW1];exact new
     have:=lE.1 hpo;have hag:∀y:Option (List Int×Unit),iT y y=y:=fun y=>by unfold iT;rw[if_pos rfl]
     rw[aA.l3a_eq,cond_false,aA.l4a_eq,dp this,cond_true,hV.num t hit];simp only[cV1];rw[new,old,hag];cases decide (0<S.length) <;> rfl
    cases hen:r.2.2.2.2.2.1 with
    | false=>
     simp(disch:=omega)only[ss,hen];exact take (fun q=>by rw[hen]at q;cases q)
    | true=>
     by_cases c3:t>r.2.2.2.1
     ·simp(disch:=omega)only[ss,hen];exact skip fun q=>by have:=q.1.2.2.1 hen;omega
     ·simp(disch:=omega)only[ss,hen];exact take fun _=>by omega
include hE
theorem nZ (n:Int):(∀x∈memL (rawP r.2.1 s F pr h m c) (n*86400) (n*86400+86400),rawP r.2.1 s F pr h m c x)∧(memL (rawP r.2.1 s F pr h m c) (n*86400) (n*86400+86400)).length≤86400:=by
 have _:=hP;have _:=hV;have _:=hE;have _:=hmost;have hmem:=fun x=>yD (rawP r.2.1 s F pr h m c) (a:=n*86400) (b:=n*86400+86400) (x:=x)
 refine⟨fun x hx=>((hmem x).1 hx).1,?_⟩;have:=zI (cE (rawP r.2.1 s F pr h m c) (n*86400) (n*86400+86400)) (a:=n*86400) (b:=n*86400+86399) fun x hx=>by have:=(hmem x).1 hx;omega
 omega
theorem yS1 (hpo:r.2.2.2.2.2.2.2.2.2.2.2.2.2.2.1≠[]):∀(k:Nat) (n:Int),e≤(n+k)*86400 → -719162≤n→n≤3000000 → ∀(S:List Int) (last counted:Int) (acc:List Int),aL1 r s F pr h m c S last→(acc.length:Int)≤most→0≤counted→counted+(memL (belW r s F pr h m c) (n*86400) e).length≤1000000000000 →
  aA.l1a s e after most S last counted n r acc=some (wkR r.2.2.1 after most (memL (belW r s F pr h m c) (n*86400) e) counted acc,()):=by
 have hE0:=hE;unfold inT at hE;intro k
 induction k with
 | zero=>
  intro n hk hn1 hn2 S last counted acc hS hacc hc0 hcnt;rw[dK _ (by omega),aA.l1a_eq,wr (by omega) (by omega),dn (show ¬n*86400<e by omega),cond_false];rfl
 | succ k ih=>
  intro n hk hn1 hn2 S last counted acc hS hacc hc0 hcnt;rw[aA.l1a_eq,wr (by omega) (by omega)];by_cases cn:n*86400<e
  ·have hO:=vI1 hP hV n 90000 ⟨hn1,by omega⟩ (by omega);obtain⟨f1,f2⟩:=nZ hP hV e most hE0 hmost n;rw[dp cn,cond_true,hO];simp only[cV1];rw[yY (r:=r) (s:=s) (F:=F) (pr:=pr) (h:=h) (m:=m) (c:=c) e n cn]at hcnt ⊢;have:=iI1 hP hV e after most hmost hpo n ⟨hn1,hn2⟩ _ f2 f1 (memL (belW r s F pr h m c) ((n+1)*86400) e) (fun S last counted acc g1 g2 g3 g4=>ih (n+1) (by rw[pV1,qV1]at hk;omega) (by omega) (by omega) S last counted acc g1 g2 g3 g4) _ 0 rfl (hV1 _) S last counted acc hS hacc hc0 (by rw[fW1];exact hcnt);rw[oV1,fW1]at this;exact this
  ·rw[dn cn,cond_false,dK _ (by omega)];rfl
theorem bT1 :∀(k:Nat) (n:Int),e≤(n+k)*86400 → -719162≤n→n≤3000000 → ∀(counted:Int) (acc:List Int),(acc.length:Int)≤most→0≤counted→counted+(memL (belW r s F pr h m c) (n*86400) e).length≤1000000000000 →
  aA.l1 s e after most 0 counted n r acc=some (wkR r.2.2.1 after most (memL (belW r s F pr h m c) (n*86400) e) counted acc,()):=by
 have hE0:=hE;unfold inT at hE;intro k
 induction k with
 | zero=>
  intro n hk hn1 hn2 counted acc hacc hc0 hcnt;rw[dK _ (by omega),aA.l1_eq,wr (by omega) (by omega),dn (show ¬n*86400<e by omega),cond_false];rfl
 | succ k ih=>
  intro n hk hn1 hn2 counted acc hacc hc0 hcnt;rw[aA.l1_eq,wr (by omega) (by omega)];by_cases cn:n*86400<e
  ·have hO:=vI1 hP hV n 90000 ⟨hn1,by omega⟩ (by omega);obtain⟨f1,f2⟩:=nZ hP hV e most hE0 hmost n;have hk':e≤(n+1+k)*86400:=by rw[pV1,qV1]at hk;omega
   rw[dp cn,cond_true,hO];simp only[cV1];rw[yY (r:=r) (s:=s) (F:=F) (pr:=pr) (h:=h) (m:=m) (c:=c) e n cn]at hcnt ⊢;generalize memL (rawP r.2.1 s F pr h m c) (n*86400) (n*86400+86400)=l at f1 f2 hcnt ⊢;have hnx:r.2.2.2.2.2.2.2.2.2.2.2.2.2.2.1≠[] → ∀(S:List Int) (last counted:Int) (acc:List Int),aL1 r s F pr h m c S last→(acc.length:Int)≤most→0≤counted→counted+(memL (belW r s F pr h m c) ((n+1)*86400) e).length≤1000000000000→aA.l1a s e after most S last counted (n+1) r acc=some (wkR r.2.2.1 after most (memL (belW r s F pr h m c) ((n+1)*86400) e) counted acc,()):=
    fun hpo=>yS1 hP hV e after most hE0 hmost hpo k (n+1) hk' (by omega) (by omega)
   have ihx:=ih (n+1) hk' (by omega) (by omega);generalize memL (belW r s F pr h m c) ((n+1)*86400) e=Y at hnx ihx hcnt ⊢
   have inner:∀(q i:Nat),l.length-i=q→i≤l.length → ∀(counted:Int) (acc:List Int),(acc.length:Int)≤most→0≤counted→counted+(((l.drop i).filter fun x=>ind (belW r s F pr h m c x)&&decide (x<e))++Y).length≤1000000000000 →
     aA.l2 s e after most 0 counted n l (i:Int) r acc=some (wkR r.2.2.1 after most (((l.drop i).filter fun x=>ind (belW r s F pr h m c x)&&decide (x<e))++Y) counted acc,()):=by
    intro q
    induction q with
    | zero=>
     intro i hq hi counted acc hacc hc0 hcnt;have e0:i=l.length:=by omega
     subst e0;rw[iW1,List.filter_nil,uV1]at hcnt ⊢;rw[aA.l2_eq];simp(disch:=omega)only[ss];exact ihx counted acc hacc hc0 hcnt
    | succ q ihq=>
     intro i hq hi counted acc hacc hc0 hcnt;have hlt:i<l.length:=by omega
     have hx:=f1 _ (eE hlt);have ha:=fun hpo=>iI1 hP hV e after most hmost hpo n ⟨hn1,hn2⟩ l f2 f1 Y (hnx hpo) q (i+1) (by omega) (by omega)
     rw[tB 0 hlt,List.filter_cons]at hcnt ⊢;rw[aA.l2_eq,xV1];generalize l.getD i 0=t at hx hcnt ⊢;have ihn:=fun counted acc=>ihq (i+1) (by omega) (by omega) counted acc
     rw[pV1,qV1]at ihn ha;generalize (l.drop (i+1)).filter (fun x=>ind (belW r s F pr h m c x)&&decide (x<e))=D at hcnt ihn ha ⊢;have hit:inT t:=hx.1;obtain⟨R,hR⟩:∃R,R=some (wkR r.2.2.1 after most ((if(ind (belW r s F pr h m c t)&&decide (t<e))=true then t::D else D)++Y) counted acc,()):=⟨_,rfl⟩
     rw[←hR]
     have skip:¬(belW r s F pr h m c t∧t<e)→aA.l3 s e after most 0 counted n l (i:Int) t true r acc=R:=fun hno=>by
      rw[hR];have hf:¬(ind (belW r s F pr h m c t)&&decide (t<e))=true:=by rw[dV1,fH,decide_eq_true_eq];exact hno
      rw[if_neg hf]at hcnt ⊢;rw[aA.l3_eq,cond_true];simp(disch:=omega)only[ss];exact ihn counted acc hacc hc0 hcnt
     by_cases c1:t<s
     ·simp(disch:=omega)only[ss];exact skip fun q=>by have:=q.1.2.1;omega
     ·by_cases c2:t≥e
      ·simp(disch:=omega)only[ss];exact skip fun q=>by omega
      ·have take:(r.2.2.2.2.2.1=true→t≤r.2.2.2.1)→aA.l3 s e after most 0 counted n l (i:Int) t false r acc=R:=fun hu=>by
        rw[hR];rw[aA.l3_eq,cond_false,aA.l4_eq];by_cases hpo:r.2.2.2.2.2.2.2.2.2.2.2.2.2.2.1=[]
        ·have hbt:belW r s F pr h m c t:=⟨hx,by omega,hu,.inl hpo⟩
         have hf:(ind (belW r s F pr h m c t)&&decide (t<e))=true:=by rw[dV1,fH,decide_eq_true_eq];exact⟨hbt,by omega⟩
         rw[if_pos hf]at hcnt ⊢;rw[uX1,eW1]at hcnt;rw[dn (show ¬(r.2.2.2.2.2.2.2.2.2.2.2.2.2.2.1.length:Int)>0 by rw[hpo];simp),cond_false,uX1];exact tT1 e after most hmost 0 n t counted l i (by omega) acc _ hacc ⟨hc0,by omega⟩ fun acc' ha'=>ihn (counted+1) acc' ha' (by omega) (by omega)
        ·obtain⟨S',⟨cd,hs1⟩,hs2⟩:=xS hP hV t hit;rw[dp (lE.1 hpo),cond_true,hV.num t hit];simp only[cV1];rw[aA.l5_eq,cond_true,hs1];simp only[cV1];exact l6_a e after most hmost hpo n t counted l i (by omega) acc D Y hx (by omega) (by omega) hu hacc hc0 hcnt S' (pr t) hs2 rfl fun c' a'=>ha hpo S' (pr t) c' a' hs2
       cases hen:r.2.2.2.2.2.1 with
       | false=>
        simp(disch:=omega)only[ss,hen];exact take (fun q=>by rw[hen]at q;cases q)
       | true=>
        by_cases c3:t>r.2.2.2.1
        ·simp(disch:=omega)only[ss,hen];exact skip fun q=>by have:=q.1.2.2.1 hen;omega
        ·simp(disch:=omega)only[ss,hen];exact take fun _=>by omega
   have:=inner _ 0 rfl (hV1 _) counted acc hacc hc0 (by rw[fW1];exact hcnt);rw[oV1,fW1]at this;exact this
  ·rw[dn cn,cond_false,dK _ (by omega)];rfl
end
section
variable {r : Rl} {s e : Int} (hr : mG r) (hm : mA.f r = some (true, ())) (ho : okE s e)
include hr hm ho
theorem tZ (after most:Int) (hmost:0≤most∧most≤4096):aA.f r s e after most=some (((LS r s e).filter fun x=>decide (x>after)).take (most.toNat+1),()):=by
 obtain⟨g1,g2,g3⟩:=ho;obtain⟨P,_,hP⟩:=zQ r hr hm s g1;have hn:=wV hr hm;have hD:=(oD s (by unfold inT at g1;omega) (by unfold inT at g1;omega)).2;have hd:=iH g1;obtain⟨f,iv,ct,un,wkst,en,mo,we,yd,md,dy,ho,mi,se,po,⟨⟩⟩:=r;have hV:=uR1 f iv ct un wkst en mo we yd md dy ho mi se po s hr hm g1;have e1:memL (belR (f,iv,ct,un,wkst,en,mo,we,yd,md,dy,ho,mi,se,po,()) s) (s/86400*86400) e=memR (f,iv,ct,un,wkst,en,mo,we,yd,md,dy,ho,mi,se,po,()) s e:=
  eJ _ (cE _ _ _) fun x=>by rw[yD];refine⟨fun q=>⟨q.1,q.1.2.1,q.2.2⟩,fun q=>⟨q.1,by omega,q.2.2⟩⟩
 have hlen:(memR (f,iv,ct,un,wkst,en,mo,we,yd,md,dy,ho,mi,se,po,()) s e).length≤400000000000:=by
  unfold inT at g1 g2
  have:=zI (eZ (f,iv,ct,un,wkst,en,mo,we,yd,md,dy,ho,mi,se,po,()) s e) (a:=s) (b:=e) fun x hx=>by have:=(wW).1 hx;have:=this.1.2.1;omega
  omega
 have hw:=bT1 hP hV e after most g2 hmost ((e-s).toNat+1) (s/86400) (by omega) hd.1 (by omega) 0 [] (by simp;omega) (rX1 _) (by show(0:Int)+(memL (belR (f,iv,ct,un,wkst,en,mo,we,yd,md,dy,ho,mi,se,po,()) s) (s/86400*86400) e).length≤_;rw[e1];omega);rw[aA.f_eq,hD];simp only[cV1];rw[hw];show some (wkR ct after most (memL (belR (f,iv,ct,un,wkst,en,mo,we,yd,md,dy,ho,mi,se,po,()) s) (s/86400*86400) e) 0 [],())=_;rw[e1,bC1 ct after most hn.1.1 hmost.1 _ 0 [] (by simp;omega) (rX1 _) (fun _=>hn.1.1),uV1];unfold LS;dsimp only;by_cases c:ct>0
 ·rw[if_pos c,if_pos c,Int.sub_zero]
 ·rw[if_neg c,if_neg c]
theorem aB1 :yF.f s e=some (false,()):=by have _:=hr;have _:=hm;obtain⟨g1,g2,g3⟩:=ho;unfold inT at g1 g2;rw[yF.f_eq,(tH e).2,dp g2];simp only[cV1,jV1,cond_false];rw[wr (by omega) (by omega),dn (show ¬e-s>316224000 by omega)]
theorem uO :eC.f r s=some (true,()):=by
 have hv:bA.f r=some (true,()):=by rw[←wQ r hr];exact hm
 rw[eC.f_eq,hv,(tH s).2,dp ho.1];rfl
theorem vN1 (most:Int) (h1:1≤most) (h2:most≤4096):rB.f r s e most=some (if((LS r s e).length:Int)>most then([],10,())else(LS r s e,0,())):=by
 have g1:=ho.1;unfold inT at g1;have hw:=tZ hr hm ho (s-1) most ⟨by omega,h2⟩
 have hall:((LS r s e).filter fun x=>decide (x>s-1))=LS r s e:=List.filter_eq_self.2 fun x hx=>by have:=uS1 hx;rw[decide_eq_true_eq];omega
 rw[hall]at hw;rw[rB.f_eq,uO hr hm ho,aB1 hr hm ho];simp only[cV1,jV1,cond_false];rw[dn (show ¬most<1 by omega),cond_false,dn (show ¬most>4096 by omega),rB.l1_eq,cond_false,wr (by omega) (by omega),hw];simp only[cV1];by_cases c:((LS r s e).length:Int)>most
 ·rw[if_pos c,dp,cond_true];rw[aW1];omega
 ·rw[if_neg c,lV1 (by omega),dn c,cond_false]
theorem yL1 (after:Int):jC.f r s after e=some (match(LS r s e).find? (fun x=>decide (x>after))with | some t=>(t,true,()) | none=>(0,false,())):=by
 have hw:=tZ hr hm ho after 0 ⟨rX1 _,by omega⟩;have hh:(LS r s e).find? (fun x=>decide (x>after))=((LS r s e).filter fun x=>decide (x>after)).head?:=(List.head?_filter ..).symm;rw[jC.f_eq,uO hr hm ho,aB1 hr hm ho];simp only[cV1,jV1,cond_false];rw[jC.l1_eq,cond_false,hw,hh];simp only[cV1];cases(LS r s e).filter fun x=>decide (x>after)with
 | nil=>rfl
 | cons t L=>rfl
end
theorem lI1 {r:Rl} {s e:Int} {bm:Bool} (hr:mG r) (hm:mA.f r=some (bm,())) (h:¬(bm=true∧okE s e)):(∀most,rB.f r s e most=some ([],1,())) ∧ ∀after,jC.f r s after e=some (0,false,()):=by
 have hv:bA.f r=some (bm,()):=by rw[←wQ r hr];exact hm
 have lt:∀most,rB.l1 s e most true r=some ([],1,()):=fun most=>by rw[rB.l1_eq,cond_true]
 have nt:∀after,jC.l1 s after e true r=some (0,false,()):=fun after=>by rw[jC.l1_eq,cond_true]
 have hR:eC.f r s=some (bm&&decide (inT s),()):=by
  rw[eC.f_eq,hv];simp only[cV1]
  cases bm with
  | false=>rfl
  | true=>rw[cond_true,(tH s).2];rfl
 by_cases c:(bm&&decide (inT s))=true
 ·rw[c]at hR;rw[dV1,decide_eq_true_eq]at c;obtain⟨rfl,c2⟩:=c;have hF:yF.f s e=some (true,()):=by
   rw[yF.f_eq,(tH e).2];simp only[cV1];by_cases c3:inT e
   ·unfold inT at c2 c3;rw[dp c3,jV1,cond_false,wr (by omega) (by omega),dp];refine Classical.byContradiction fun q=>h ⟨rfl,c2,c3,fun _=>by omega⟩
   ·unfold inT at c3;rw[dn c3,qW1,cond_true]
  refine⟨fun most=>?_,fun after=>?_⟩
  ·rw[rB.f_eq,hR,hF];simp only[cV1,jV1,cond_false,cond_true];exact lt most
  ·rw[jC.f_eq,hR,hF];simp only[cV1,jV1,cond_false];exact nt after
 ·have c':(bm&&decide (inT s))=false:=by
   cases q:bm&&decide (inT s)with
   | false=>rfl
   | true=>exact absurd q c
  rw[c']at hR;refine⟨fun most=>?_,fun after=>?_⟩
  ·rw[rB.f_eq,hR];simp only[cV1,qW1,cond_true];exact lt most
  ·rw[jC.f_eq,hR];simp only[cV1,qW1,cond_true];exact nt after
abbrev pT (f n ct:Int):Rl:=(f,n,ct,0,0,false,[],[],[],[],[],[],[],[],[],())
theorem oV (f n ct:Int):mG (pT f n ct):=by unfold mG kL;simp
theorem qP (lo hi:Int) (z:Bool):wi [] lo hi z:=⟨fun j hj=>absurd hj (by simp),hV1 _⟩
theorem lT1 (f iv ct un wkst:Int) (en:Bool) (mo we yd md:List Int) (dy:List Dy):mA.l5 (f,iv,ct,un,wkst,en,mo,we,yd,md,dy,[],[],[],[],())=some (true,()):=by
 have hnil:(([]:List Int).length:Int)=0:=rfl;have hm1:mm true (0:Int) 1=1:=rfl;have e:w6 (w6 (1*1)*1)=1:=by decide
 rw[mA.l5_eq];by_cases c4:f>4
 ·simp(disch:=omega)only[ss,hnil,mA.l6_eq,mA.l7_eq,hm1,e]
 ·simp(disch:=omega)only[ss,hnil,mA.l6_eq,mA.l7_eq,hm1,e]
theorem qQ1 {f n ct:Int} (hf:1≤f∧f≤7) (h:1≤n∧n≤1000) (hc:0≤ct∧ct≤4096):mA.f (pT f n ct)=some (true,()):=by have g:=gQ f n ct 0 0 false [] [] [] [] [] [] [] [] [] (oV f n ct);rw[g.1 ⟨⟨⟨hf.1,hf.2,h.1,h.2,hc.1,hc.2,by omega,by omega⟩,(fun q=>by cases q),fun _=>rfl⟩,⟨qP _ _ _,qP _ _ _,qP _ _ _,qP _ _ _,qP _ _ _,qP _ _ _,qP _ _ _,qP _ _ _,⟨⟨fun j hj=>absurd hj (by simp),hV1 _⟩,fun j hj=>absurd hj (by simp)⟩⟩,by simp,by simp,by simp⟩];exact lT1 _ _ _ _ _ _ _ _ _ _ _
theorem cT1 {f:Int} (hf:3≤f) (s n:Int) (h0: -719162≤s/86400∧s/86400≤2932896) (hn: -719162≤n∧n≤2932896):tK f 0 [] [] [] [] [] s n=true↔(f=3→wk n=wk (s/86400)):=by
 obtain⟨y0,m0,d0,e0,_⟩:=oG (s/86400) h0.1 h0.2;obtain⟨y,m,d,e,_⟩:=oG n hn.1 hn.2;unfold tK;rw[fH];constructor
 ·rintro⟨y0',m0',d0',y',m',d',g0,g,q⟩ h3;unfold fitP stP at q;obtain⟨_,_,_,_,q,_⟩:=q;rcases q with q | ⟨q,_⟩ | ⟨_,q⟩
  ·simp at q
  ·simp at q
  ·rcases q with q | q | q | q
   ·omega
   ·omega
   ·exact q.2
   ·omega
 ·intro q;refine⟨y0,m0,d0,y,m,d,e0,e,?_⟩;unfold fitP hasP wdP stP wkP;by_cases c:f=3
  ·exact⟨.inl rfl,.inl rfl,.inl rfl,.inl rfl,.inr (.inr ⟨rfl,.inr (.inr (.inl ⟨c,q c⟩))⟩),.inl rfl⟩
  ·exact⟨.inl rfl,.inl rfl,.inl rfl,.inl rfl,.inr (.inr ⟨rfl,.inr (.inr (.inr ⟨by omega,by omega,c⟩))⟩),.inl rfl⟩
def stp (f:Int):Int:=if f=3 then 604800 else if f=4 then 86400 else if f=5 then 3600 else 1
theorem zM1 (a n:Int):Int.tmod a n=0↔n∣a:=(Int.dvd_iff_tmod_eq_zero ..).symm
theorem rT1 {f n ct:Int} (hf:f=3∨f=4∨f=5∨f=7) (hn:1≤n∧n≤1000) (hc:0≤ct∧ct≤4096) {s:Int} (hs:inT s) (x:Int):belR (pT f n ct) s x↔inT x∧s≤x ∧ ∃u,x-s=stp f*u∧n∣u:=by
 obtain⟨P,_,hP⟩:=zQ (pT f n ct) (oV f n ct) (qQ1 (by omega) hn hc) s hs;have hm:=fT (h:=sJ f [] s) hP.om.2.1 hP.oc.2.1 (x%86400);have hb:belR (pT f n ct) s x↔rawP n s (tK f 0 [] [] [] [] [] s) (per f 0 []) (sJ f [] s) (tP f [] s) (xP f [] s) x∧s≤x:=by
  constructor
  ·intro q;exact⟨q.1,q.2.1⟩
  ·intro q;exact⟨q.1,q.2,(fun z=>by cases z),.inl rfl⟩
 rw[hb];unfold rawP inP;rw[hm,zM1];have hsd:=iH hs;have stop:¬inT x→(((inT x∧(x%86400/3600∈sJ f [] s∧x%86400/60%60∈tP f [] s∧x%86400%60∈xP f [] s)∧n∣per f 0 [] x-per f 0 [] s∧tK f 0 [] [] [] [] [] s (x/86400)=true)∧s≤x)↔(inT x∧s≤x ∧ ∃u,x-s=stp f*u∧n∣u)):=fun c=>⟨fun q=>absurd q.1.1 c,fun q=>absurd q.1 c⟩
 by_cases cx:inT x
 ·have hxd:=iH cx;rw[cT1 (by omega) s _ hsd hxd];rcases hf with rfl | rfl | rfl | rfl
  ·have a1:sJ 3 [] s=[s%86400/3600]:=rfl;have a2:tP 3 [] s=[s%86400/60%60]:=rfl;have a3:xP 3 [] s=[s%86400%60]:=rfl;have hp:∀t,per 3 0 [] t=(t/86400+3-0)/7:=fun t=>(sU (.inl ⟨by omega,.inr (.inr (.inr (.inl ⟨rfl,rfl⟩)))⟩)).symm
   rw[a1,a2,a3,hp,hp,cW1,cW1,cW1];unfold stp wk;rw[if_pos rfl];constructor
   ·rintro⟨⟨_,⟨q1,q2,q3⟩,q4,q5⟩,q6⟩;have q5:=q5 rfl;exact⟨cx,q6,_,by omega,q4⟩
   ·rintro⟨_,q1,u,q2,q3⟩;refine⟨⟨cx,⟨by omega,by omega,by omega⟩,?_,fun _=>by omega⟩,q1⟩;rw[show(x/86400+3-0)/7-(s/86400+3-0)/7=u by omega];exact q3
  ·have a1:sJ 4 [] s=[s%86400/3600]:=rfl;have a2:tP 4 [] s=[s%86400/60%60]:=rfl;have a3:xP 4 [] s=[s%86400%60]:=rfl;have hp:∀t,per 4 0 [] t=t/86400:=fun t=>(sU (.inl ⟨by omega,.inr (.inr (.inr (.inr ⟨rfl,rfl⟩)))⟩)).symm
   rw[a1,a2,a3,hp,hp,cW1,cW1,cW1];unfold stp;rw[if_neg (by omega),if_pos rfl];constructor
   ·rintro⟨⟨_,⟨q1,q2,q3⟩,q4,q5⟩,q6⟩;exact⟨cx,q6,_,by omega,q4⟩
   ·rintro⟨_,q1,u,q2,q3⟩;refine⟨⟨cx,⟨by omega,by omega,by omega⟩,?_,fun z=>by omega⟩,q1⟩;rw[show x/86400-s/86400=u by omega];exact q3
  ·have a1:sJ 5 [] s=upTo 24:=rfl;have a2:tP 5 [] s=[s%86400/60%60]:=rfl;have a3:xP 5 [] s=[s%86400%60]:=rfl;have hp:∀t,per 5 0 [] t=t/3600:=fun t=>(sU (.inr (.inl ⟨rfl,rfl⟩))).symm
   rw[a1,a2,a3,hp,hp,dM,cW1,cW1];unfold stp;rw[if_neg (by omega),if_neg (by omega),if_pos rfl];constructor
   ·rintro⟨⟨_,⟨q1,q2,q3⟩,q4,q5⟩,q6⟩;exact⟨cx,q6,_,by omega,q4⟩
   ·rintro⟨_,q1,u,q2,q3⟩;refine⟨⟨cx,⟨by omega,by omega,by omega⟩,?_,fun z=>by omega⟩,q1⟩;rw[show x/3600-s/3600=u by omega];exact q3
  ·have a1:sJ 7 [] s=upTo 24:=rfl;have a2:tP 7 [] s=upTo 60:=rfl;have a3:xP 7 [] s=upTo 60:=rfl;have hp:∀t,per 7 0 [] t=t:=fun t=>(sU (.inr (.inr (.inr ⟨rfl,rfl⟩)))).symm
   rw[a1,a2,a3,hp,hp,dM,dM,dM];unfold stp;rw[if_neg (by omega),if_neg (by omega),if_neg (by omega)];constructor
   ·rintro⟨⟨_,_,q4,q5⟩,q6⟩;exact⟨cx,q6,_,by omega,q4⟩
   ·rintro⟨_,q1,u,q2,q3⟩;refine⟨⟨cx,⟨by omega,by omega,by omega⟩,?_,fun z=>by omega⟩,q1⟩;rw[show x-s=u by omega];exact q3
 ·exact stop cx
def AP (s q:Int) (k:Nat):List Int:=(List.range k).map fun(j:Nat)=>s+q*(j:Int)
theorem jS1 (s q:Int) (k:Nat):(AP s q k).length=k:=by unfold AP;rw[vW1,List.length_range]
theorem kQ1 {s q:Int} (hq:0<q) (k:Nat):Rise (AP s q k):=by unfold AP Rise;rw[List.pairwise_map];refine List.Pairwise.imp (fun {i j} h=>?_) List.pairwise_lt_range;have:q*(i:Int)<q*(j:Int):=Int.mul_lt_mul_of_pos_left (by omega) hq;omega
theorem iQ1 (s q:Int) (k i:Nat) (h:i≤k):(AP s q k).take i=AP s q i:=by unfold AP;rw[←List.map_take,List.take_range,Nat.min_eq_left h]
theorem pS1 {f n ct:Int} (hf:f=3∨f=4∨f=5∨f=7) (hn:1≤n∧n≤1000) (hc:0≤ct∧ct≤4096) {s:Int} (hs:inT s) (k:Nat) (he:s+stp f*n*(k:Int)≤253402300799):memR (pT f n ct) s (s+stp f*n*(k:Int))=AP s (stp f*n) k:=by
 have hq:0<stp f*n:=by
  refine Int.mul_pos ?_ (by omega);unfold stp;split
  ·omega
  ·split
   ·omega
   ·split <;> omega
 refine rK (eZ _ _ _) (kQ1 hq k) fun x=>?_
 rw[wW,rT1 hf hn hc hs];unfold AP;rw[yV1];constructor
 ·rintro⟨⟨_,q1,u,q2,v,q3⟩,q4⟩;rw[q3,←Int.mul_assoc]at q2;have hv:0≤v:=by
   refine Classical.byContradiction fun c=>?_
   have:stp f*n*v≤stp f*n*(-1):=Int.mul_le_mul_of_nonneg_left (by omega) (by omega);omega
  have hv2:v<k:=Int.lt_of_mul_lt_mul_left (a:=stp f*n) (by omega) (by omega);refine⟨v.toNat,List.mem_range.2 (by omega),?_⟩;rw[show((v.toNat:Nat):Int)=v by omega];omega
 ·rintro⟨j,hj,e⟩;have hj:=List.mem_range.1 hj;have h1:stp f*n*(j:Int)<stp f*n*(k:Int):=Int.mul_lt_mul_of_pos_left (by omega) hq;have h2:0≤stp f*n*(j:Int):=Int.mul_nonneg (by omega) (by omega);unfold inT at hs ⊢;refine⟨⟨by omega,by omega,n*(j:Int),?_,⟨_,rfl⟩⟩,by omega⟩;rw[←Int.mul_assoc];omega
abbrev jT1 :Rl:=pT 4 1 3
abbrev dS1 :Rl:=pT 7 1 0
set_option maxRecDepth 1000000 in
theorem rS1 :tL.f ⟨#[70,82,69,81,61,68,65,73,76,89,59,67,79,85,78,84,61,51]⟩=some (jT1,0,0,()):=yM (E:=E) (f:=49) rfl (D:=c49) (c:=b49) (by kernel_rfl) (by kernel_rfl) _ 400 (by kernel_rfl)
set_option maxRecDepth 1000000 in
theorem vS1 :tL.f ⟨#[70,82,69,81,61,83,69,67,79,78,68,76,89]⟩=some (dS1,0,0,()):=yM (E:=E) (f:=49) rfl (D:=c49) (c:=b49) (by kernel_rfl) (by kernel_rfl) _ 400 (by kernel_rfl)
set_option maxRecDepth 1000000 in
theorem sp1 :sK.f ⟨#[50,48,50,54,48,49,48,49,84,48,48,48,48,48,48]⟩=some (1767225600,0,()):=yM (E:=E) (f:=62) rfl (D:=c62) (c:=b62) (by kernel_rfl) (by kernel_rfl) _ 400 (by kernel_rfl)
set_option maxRecDepth 1000000 in
theorem sp2 :sK.f ⟨#[50,48,50,55,48,49,48,49,84,48,48,48,48,48,48]⟩=some (1798761600,0,()):=yM (E:=E) (f:=62) rfl (D:=c62) (c:=b62) (by kernel_rfl) (by kernel_rfl) _ 400 (by kernel_rfl)
theorem ok1 :okE 1767225600 1798761600:=by unfold okE inT;omega
theorem sU1 :dD.f jT1 1767225600 1798761600 10=some ([1767225600,1767312000,1767398400],0,()):=by
 have hm:=qQ1 (f:=4) (n:=1) (ct:=3) (by omega) (by omega) (by omega);have h:=nB1 (oV 4 1 3) hm ok1 10 (by omega) (by omega);have e:=pS1 (f:=4) (n:=1) (ct:=3) (by omega) (by omega) (by omega) ok1.1 365 (by unfold stp;simp);have eq:(1767225600:Int)+stp 4*1*((365:Nat):Int)=1798761600:=by decide
 rw[eq]at e;have hl:LS (pT 4 1 3) 1767225600 1798761600=[1767225600,1767312000,1767398400]:=by unfold LS;rw[if_pos (show(3:Int)>0 by omega),e];show(AP 1767225600 (stp 4*1) 365).take 3=_;rw[iQ1 _ _ _ _ (by omega)];decide
 rw[hl]at h;exact h
theorem aV1 :dD.f dS1 1767225600 1798761600 10=some ([],10,()):=by
 have hm:=qQ1 (f:=7) (n:=1) (ct:=0) (by omega) (by omega) (by omega);have h:=nB1 (oV 7 1 0) hm ok1 10 (by omega) (by omega);have e:=pS1 (f:=7) (n:=1) (ct:=0) (by omega) (by omega) (by omega) ok1.1 31536000 (by unfold stp;simp);have eq:(1767225600:Int)+stp 7*1*((31536000:Nat):Int)=1798761600:=by unfold stp;simp
 rw[eq]at e;have hl:(LS (pT 7 1 0) 1767225600 1798761600).length=31536000:=by unfold LS;rw[if_neg (show ¬(0:Int)>0 by omega),e,jS1]
 rw[hl,if_pos (by omega)]at h;exact h
theorem tF1 :jF.f=some (true,()):=by rw[jF.f_eq,rS1,vS1,sp1,sp2];simp only[cV1];rw[sU1,aV1];simp only[cV1];rw[show w6 (1767225600+86400)=1767312000 by rw[wr (by omega) (by omega)];rfl,show w6 (1767225600+172800)=1767398400 by rw[wr (by omega) (by omega)];rfl,jG _ (by simp)];rfl
theorem oF1 (l:List Dy) (hl:l.length≤1000000):lC.f l l=some (true,()):=by
 have key:∀(k i:Nat),l.length-i=k→i≤l.length→lC.l1 l l i=some (true,()):=by
  intro k
  induction k with
  | zero=>
   intro i hk hi;rw[lC.l1_eq];simp(disch:=omega)only[ss]
  | succ k ih=>
   intro i hk hi;have h1:=ih (i+1) (by omega) (by omega);rw[pV1,qV1]at h1;rw[lC.l1_eq];simp(disch:=omega)only[ss,lC.l2_eq];exact h1
 have:=key _ 0 rfl (hV1 _);rw[oV1]at this;rw[lC.f_eq];simp(disch:=omega)only[ss,this]
theorem nF1 (r:Rl) (h:mG r):uI.f r r=some (true,()):=by unfold mG kL at h;obtain⟨h1,h2,h3,h4,h5,h6,h7,h8,h9⟩:=h;rw[uI.f_eq,jG _ (by omega),jG _ (by omega),jG _ (by omega),jG _ (by omega),oF1 _ (by omega),jG _ (by omega),jG _ (by omega),jG _ (by omega),jG _ (by omega)];simp(disch:=omega)only[ss,beq_self_eq_true]
theorem eF1 (r:Rl) (hr:mG r) (s e most:Int):∃L cd,dD.f r s e most=some (L,cd,())∧rB.f r s e most=some (L,cd,())∧L.length≤4096:=by
 obtain⟨bm,hm⟩:=sQ r hr;by_cases c:bm=true∧okE s e
 ·obtain⟨rfl,ho⟩:=c;by_cases c1:most<1∨most>4096
  ·obtain⟨P,hMk,hP⟩:=zQ r hr hm s ho.1;refine⟨[],1,?_,?_,hV1 _⟩
   ·rw[dD.f_eq,jA1 hMk ho];simp only[cV1];rw[jV1,cond_false];rcases c1 with c1 | c1
    ·rw[dp c1,cond_true]
    ·rw[dn (show ¬most<1 by omega),cond_false,dp c1,cond_true]
   ·have lt:rB.l1 s e most true r=some ([],1,()):=by rw[rB.l1_eq,cond_true]
    rw[rB.f_eq,uO hr hm ho,aB1 hr hm ho];simp only[cV1,jV1,cond_false];rcases c1 with c1 | c1
    ·rw[dp c1,cond_true,lt]
    ·rw[dn (show ¬most<1 by omega),cond_false,dp c1,lt]
  ·have h1:=nB1 hr hm ho most (by omega) (by omega);have h2:=vN1 hr hm ho most (by omega) (by omega);by_cases c2:((LS r s e).length:Int)>most
   ·rw[if_pos c2]at h1 h2;exact⟨_,_,h1,h2,hV1 _⟩
   ·rw[if_neg c2]at h1 h2;exact⟨_,_,h1,h2,by omega⟩
 ·exact⟨[],1,(cO1 hr hm c).1 most,(lI1 hr hm c).1 most,hV1 _⟩
theorem dG1 (r:Rl) (hr:mG r) (s e after:Int):∃x b,qC.f r s after e=some (x,b,())∧jC.f r s after e=some (x,b,()):=by
 obtain⟨bm,hm⟩:=sQ r hr;by_cases c:bm=true∧okE s e
 ·obtain⟨rfl,ho⟩:=c;have h1:=mQ1 hr hm ho after;have h2:=yL1 hr hm ho after;cases q:(LS r s e).find? (fun x=>decide (x>after))with
  | none=>
   rw[q]at h1 h2;exact⟨_,_,h1,h2⟩
  | some t=>
   rw[q]at h1 h2;exact⟨_,_,h1,h2⟩
 ·exact⟨0,false,(cO1 hr hm c).2 after,(lI1 hr hm c).2 after⟩
theorem uP (r:Rl) (s e most after:Int):jE.f r s e most after=some (true,()):=by
 obtain⟨b,hb,hsh⟩:=sF1 r s e;rw[jE.f_eq,tF1,hb];simp only[cV1,jV1,cond_false]
 cases b with
 | false=>rfl
 | true=>
  have hr:=hsh rfl;obtain⟨L,cd,h1,h2,h3⟩:=eF1 r hr s e most;obtain⟨x,y,n1,n2⟩:=dG1 r hr s e after;have hC:rH.f r s e most=some ((L.length:Int),cd,()):=by rw[rH.f_eq,h1];rfl
  rw[jV1,cond_false,uK1 r hr];simp only[cV1];rw[h1,h2,hC,n1,n2];simp only[cV1,cond_true];rw[jG L (by omega),nF1 r hr];have hy:(y==y)=true:=by cases y <;> rfl
  simp only[cV1,cond_true,decide_true,hy]
end Go.GV.YtegmfagkklekaaaGreatDoor
