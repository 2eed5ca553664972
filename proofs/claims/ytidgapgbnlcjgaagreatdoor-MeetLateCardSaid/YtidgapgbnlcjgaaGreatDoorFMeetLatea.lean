/-
Part of the words that MeetLate is proved with: no statement of its own, no conditions.
-/
import Derived.Test.YtidgapgbnlcjgaaGreatDoorX18
set_option linter.unusedVariables false
set_option linter.unusedSimpArgs false
namespace Go.GV.YtidgapgbnlcjgaaGreatDoor
open Go.Proofs
def gT (b a:List Sp) (v:Int):Prop:=b.length≤a.length∧(∀i,i<b.length→(a.getD i zSh).1=(b.getD i zSh).1∧(b.getD i zSh).2.1≤(a.getD i zSh).2.1∧(i+1<b.length→(a.getD i zSh).2.1=(b.getD i zSh).2.1)) ∧ ∀i,b.length≤i→i<a.length→v≤(a.getD i zSh).1
theorem lK1 (b:List Sp) (v:Int):gT b b v:=⟨tZ1 _,fun _ _=>⟨rfl,iB2 _,fun _=>rfl⟩,fun i h1 h2=>by omega⟩
theorem qI1 {b a:List Sp} {v:Int} {s:Sp} (h:gT b a v) (hs:v≤s.1):gT b (push a s) v:=by
 obtain⟨h1,h2,h3⟩:=h;rcases eH a with rfl | ⟨o,p,rfl⟩
 ·rw[fN];rw[gB2]at h1;refine⟨by omega,fun i hi=>by omega,fun i _ hi=>?_⟩;have:i=0:=by simp at hi;omega
  subst this;exact hs
 ·rw[uD]at h1;have gl:∀(x:Sp) (i:Nat),i<o.length→(o++[x]).getD i zSh=o.getD i zSh:=fun x i hi=>lN _ _ _ _ hi
  have ge:∀(x:Sp),(o++[x]).getD o.length zSh=x:=fun x=>mR o x zSh
  rw[cI,xR];split
  ·refine⟨by rw[uD];omega,fun i hi=>?_,fun i g1 g2=>?_⟩
   ·obtain⟨q1,q2,q3⟩:=h2 i hi;by_cases c:i<o.length
    ·rw[gl _ i c]at q1 q2 q3 ⊢;exact⟨q1,q2,q3⟩
    ·have e:i=o.length:=by omega
     subst e;rw[ge]at q1 q2 q3 ⊢;exact⟨q1,by dsimp only;omega,fun q=>by omega⟩
   ·rw[uD]at g2;by_cases c:i<o.length
    ·have:=h3 i g1 (by rw[uD];omega);rw[gl _ i c]at this ⊢;exact this
    ·have e:i=o.length:=by omega
     subst e;have:=h3 o.length g1 (by rw[uD];omega);rw[ge]at this ⊢;exact this
  ·have gl2:∀i,i<o.length+1→(o++[p]++[s]).getD i zSh=(o++[p]).getD i zSh:=fun i hi=>lN _ _ _ _ (by rw[uD];exact hi)
   refine⟨by rw[uD,uD];omega,fun i hi=>?_,fun i g1 g2=>?_⟩
   ·rw[gl2 i (by omega)];exact h2 i hi
   ·rw[uD,uD]at g2;by_cases c:i<o.length+1
    ·rw[gl2 i c];exact h3 i g1 (by rw[uD];exact c)
    ·have e:i=(o++[p]).length:=by rw[uD];omega
     subst e;rw[mR];exact hs
theorem uZ :∀(l:List Sp) {b a:List Sp} {v:Int},gT b a v→(∀s∈l,v≤s.1)→gT b (l.foldl push a) v
 | [],_,_,_,h,_=>h
 | s::l,b,a,v,h,h2=>by rw[vB2];exact uZ l (qI1 h (h2 s (by simp))) fun x hx=>h2 x (jZ1 _ hx)
theorem zU (d:Int):∀{a b:List Sp},a.Perm b→(∀s∈a,s.2.1=s.1+d)→a.Pairwise (fun x y=>x.1≤y.1)→b.Pairwise (fun x y=>x.1≤y.1)→a=b
 | [],b,h,_,_,_=>(List.nil_perm.1 h).symm
 | x::a,[],h,_,_,_=>absurd h.length_eq (by simp)
 | x::a,y::b,h,h1,h2,h3=>by
  have hx:=h1 x (by simp);have hyb:y∈x::a:=h.mem_iff.2 (by simp);have hxa:x∈y::b:=h.mem_iff.1 (by simp);have hy:=h1 y hyb;rw[tA2]at h2 h3;have e1:x.1=y.1:=by
   have q1:x.1≤y.1:=by
    rcases pZ1.1 hyb with e | e
    ·rw[e];exact iB2 _
    ·exact h2.1 y e
   have q2:y.1≤x.1:=by
    rcases pZ1.1 hxa with e | e
    ·rw[e];exact iB2 _
    ·exact h3.1 x e
   omega
  have e:x=y:=Prod.ext e1 (Prod.ext (by rw[hx,hy,e1]) rfl);subst e;rw[zU d (List.Perm.cons_inv h) (fun s hs=>h1 s (jZ1 _ hs)) h2.2 h3.2]
theorem bV (v:Int):∀{a:List Sp},a.Pairwise (fun x y=>x.1≤y.1)→a=a.filter (fun s=>decide (s.1<v))++a.filter (fun s=> !decide (s.1<v))
 | [],_=>rfl
 | x::a,h=>by
  rw[tA2]at h;have ih:=bV v h.2;rw[List.filter_cons,List.filter_cons];by_cases c:x.1<v
  ·rw[dp c,if_pos rfl,if_neg (by simp),List.cons_append,←ih]
  ·have hn:a.filter (fun s=>decide (s.1<v))=[]:=List.filter_eq_nil_iff.2 fun s hs=>by have:=h.1 s hs;simp;omega
   have ha:a.filter (fun s=> !decide (s.1<v))=a:=List.filter_eq_self.2 fun s hs=>by have:=h.1 s hs;simp;omega
   rw[dn c,if_neg (by simp),aA2,if_pos rfl,hn,ha,lA2]
theorem jW1 {r:Rl} {s e e':Int} (h:e'≤e) (x:Int):x∈LS r s e'↔x∈LS r s e∧x<e':=by
 by_cases c:s≤e'
 ·obtain⟨R,h1,h2⟩:=qQ1 (r:=r) c h;rw[h1,sZ1];constructor
  ·exact fun q=>⟨.inl q,(aF1 q).2.2⟩
  ·rintro⟨q | q,h3⟩
   ·exact q
   ·have:=h2 x q;omega
 ·constructor
  ·intro q;have:=aF1 q;omega
  ·rintro⟨q,h3⟩;have:=aF1 q;omega
theorem fS1 {m:Mt} {e e':Int} (h:e'≤e) (x:Int):x∈allL m e'↔x∈allL m e∧x<e':=by
 have hb:x<e'→(x∈nT m e'↔x∈nT m e):=fun hx=>by
  unfold nT;split
  ·rw[jW1 h];exact⟨fun q=>q.1,fun q=>⟨q,hx⟩⟩
  ·exact Iff.rfl
 rw[tN,tN];constructor
 ·rintro⟨h1,h2,h3⟩;rw[hb h3]at h1;exact⟨⟨h1,h2,by omega⟩,h3⟩
 ·rintro⟨⟨h1,h2,_⟩,h3⟩;rw[←hb h3]at h1;exact⟨h1,h2,h3⟩
theorem pH1 {m:Mt} {e e':Int} (h:e'≤e):allL m e'=(allL m e).filter fun x=>decide (x<e'):=
 qI (oT m e') (List.Pairwise.filter _ (oT m e)) fun x=>by rw[fS1 h,oB2,decide_eq_true_eq]
theorem vM1 {m:Mt} {U:Int→Int} {du hi hi':Int} (h:hi'≤hi) (hU:∀t∈allL m (hi+172800),t-64800≤U t):spF U du hi' (allL m (hi'+172800))=(spF U du hi (allL m (hi+172800))).filter fun s=>decide (s.1<hi'):=by
 rw[pH1 (e:=hi+172800) (by omega)];unfold spF;rw[List.filter_map,List.filter_filter,List.filter_filter]
 congr 1
 refine List.filter_congr fun t ht=>?_
 have:=hU t ht;simp only[Function.comp];by_cases c:U t<hi'
 ·rw[dp c,dp (show t<hi'+172800 by omega),dp (show U t<hi by omega)]
 ·rw[dn c];simp
section
variable (hi less : Int) (a b : List Sp)
theorem tU1 (ha:a.length≤100000) (hw:w6 (hi-less)=hi-less) (h:gT b a (hi-less)):∀(k i:Nat),b.length-i=k→i≤b.length→iA.l3 hi less a b (i:Int)=some (true,()):=by
 obtain⟨h1,h2,h3⟩:=h;intro k
 induction k with
 | zero=>
  intro i hk hi';have e:i=b.length:=by omega
  subst e;rw[iA.l3_eq,aE];by_cases c:a.length=b.length
  ·simp(disch:=omega)only[ss]
  ·have:=h3 b.length (tZ1 _) (by omega);simp(disch:=omega)only[ss,hw]
 | succ k ih=>
  intro i hk hi';have hlt:i<b.length:=by omega
  obtain⟨q1,q2,q3⟩:=h2 i hlt;have next:iA.l4 hi less a b (i:Int) false=some (true,()):=by rw[iA.l4_eq,cond_false];simp(disch:=omega)only[ss];exact ih (i+1) (by omega) (by omega)
  rw[iA.l3_eq,show((0,0,()):Sp)=zSh from rfl];by_cases c:i+1<b.length
  ·have q4:=q3 c;simp(disch:=omega)only[ss];exact next
  ·simp(disch:=omega)only[ss];exact next
end
theorem aW (m:Mt) (zs:List Zn) (hi less:Int) (ok:(c7).par.T.Ok (m,zs,hi,less,())):iA.f m zs hi less=some (true,()):=by
 have l1t:iA.l1 zs hi less true m=some (true,()):=by rw[iA.l1_eq,cond_true,aE];rfl
 have hzl:zs.length≤9223372036854775807:=ok.2.1.1;have hhi:rN1 .i64 hi:=ok.2.2.1;obtain⟨b,hb,hsm⟩:=fX1 m;obtain⟨d,hd,hzs⟩:=fewz zs hzl;rw[iA.f_eq,aE,hb];simp only[hZ1,mZ1,cond_false]
 cases b with
 | false=>rw[aA2,cond_true,l1t]
 | true=>
 rw[mZ1,cond_false,hd];simp only[hZ1]
 cases d with
 | false=>rw[aA2,cond_true,l1t]
 | true=>
 have hs:=hsm rfl;obtain⟨g,hg⟩:=uI1 m hs hi;rw[mZ1,cond_false,hg];simp only[hZ1]
 cases g with
 | false=>rw[aA2,cond_true,l1t]
 | true=>
 rw[mZ1,cond_false];by_cases c1:less<0
 ·rw[dp c1,cond_true,l1t]
 rw[dn c1,cond_false];by_cases c2:less>40000000
 ·rw[dp c2,l1t]
 rw[dn c2,iA.l1_eq,cond_false];have l2t:∀x y:List Sp,iA.l2 hi less x y true=some (true,()):=fun x y=>by rw[iA.l2_eq,cond_true,aE];rfl
 obtain⟨Sa,ca,a1,a2,a3⟩:=sN m hs zs (fun z hz=>(hzs rfl).2 z hz) hi;obtain⟨Sb,cb,b1,b2,b3⟩:=sN m hs zs (fun z hz=>(hzs rfl).2 z hz) (w6 (hi-less));rw[a1,b1];simp only[hZ1];by_cases ea:ca=0
 ·rw[dp ea,mZ1,cond_false];by_cases eb:cb=0
  ·rw[dp eb,mZ1];obtain⟨hM,z0,z1,hz,hzM,i1,i2,hL,hLl,hU,ra,r1,r2,rfl⟩:=a3 ea;have hw:w6 (hi-less)=hi-less:=wr (by omega) (by omega);rw[hw]at b3;obtain⟨_,_,_,_,_,_,_,_,hLl2,_,rb,s1,s2,rfl⟩:=b3 eb;obtain⟨m1,m2,m3,m4,m5,m6,m7,m8,m9⟩:=hM
   have hu:∀t∈allL m (hi+172800),t-64800≤utcF (zs.getD m.1.toNat zZ) t:=fun t ht=>by have hm:=tN.1 ht;have hb:=vK1 ⟨m1,m2,m3,m4,m5,m6,m7,m8,m9⟩ hm.1;exact(yP _ hz hzM t ⟨hb.1,by omega⟩).2.1
   have hf:=vM1 (du:=m.2.2.1) (show hi-less≤hi by omega) hu;rw[hf]at s1
   have hlen:∀s∈rb,s.2.1=s.1+m.2.2.1:=fun s h=>by obtain⟨t,_,_,rfl⟩:=dY.1 (oB2.1 (s1.mem_iff.1 h)).1;rfl
   have hp:rb.Perm (ra.filter fun s=>decide (s.1<hi-less)):=s1.trans (r1.filter _).symm;have e:rb=ra.filter fun s=>decide (s.1<hi-less):=zU m.2.2.1 hp hlen s2 (List.Pairwise.filter _ r2)
   have hcut:=bV (hi-less) r2;rw[←e]at hcut;have hgo:gT (rb.foldl push []) (ra.foldl push []) (hi-less):=by
    rw[hcut,List.foldl_append];refine uZ _ (lK1 _ _) fun s h=>?_
    have:=(oB2.1 h).2;simp at this;omega
   have hal:(ra.foldl push []).length≤100000:=by have h1:=pY ra [];have h2:=r1.length_eq;have h3:=lC1 (utcF (zs.getD m.1.toNat zZ)) m.2.2.1 hi (allL m (hi+172800));rw[gB2]at h1;omega
   have hg1:=hgo.1;have:=tU1 hi less (ra.foldl push []) (rb.foldl push []) hal hw hgo _ 0 rfl (oZ1 _);rw[iA.l2_eq,cond_false,dn (by omega),cond_false];exact this
  ·rw[dn eb,aA2,l2t]
 ·rw[dn ea,aA2,cond_true,l2t]
end Go.GV.YtidgapgbnlcjgaaGreatDoor
