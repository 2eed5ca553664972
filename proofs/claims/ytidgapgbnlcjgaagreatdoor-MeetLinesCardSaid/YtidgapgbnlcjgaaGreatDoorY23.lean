/-
Part of the words that the laws of this seat are proved with: no statement of its own, no conditions.
-/
import Derived.Test.YtidgapgbnlcjgaaGreatDoorY22
set_option linter.unusedVariables false
set_option linter.unusedSimpArgs false
namespace Go.GV.YtidgapgbnlcjgaaGreatDoor
open Go.Proofs
def nQ (ex:List Int) (e t:Int):Bool:= !(decide (t∈ex)||decide (t≥e))
theorem xW1 {p:Int→Bool} {x:Int} (h:p x=false):List.filter p [x]=[]:=by rw[List.filter_cons,h];rfl
theorem jY1 {p:Int→Bool} {x:Int} (h:p x=true):List.filter p [x]=[x]:=by rw[List.filter_cons,h];rfl
section
variable (z st du : Int) (rc : Bool) (f iv ct un wk : Int) (en : Bool) (mo we yd md : List Int) (dy : List (Int × Int × Unit)) (ho mi se po da ex : List Int) (e : Int)
theorem tH2 (hx:yP ex) (hl:ex.length≤1000000) (t:Int):iI.f t (z,st,du,rc,f,iv,ct,un,wk,en,mo,we,yd,md,dy,ho,mi,se,po,da,ex,()) (e,())=some (!nQ ex e t,(z,st,du,rc,f,iv,ct,un,wk,en,mo,we,yd,md,dy,ho,mi,se,po,da,ex,()),(e,()),()):=by
 obtain⟨i,h1,h2,h3⟩:=lI2 hl hx t;have hd:decide (i<ex.length∧ex.getD i 0=t)=decide (t∈ex):=decide_eq_decide.2 ⟨fun h=>by rw[←h.2];exact dB2 h.1,h3⟩;rw[hd]at h1;rw[iI.f_eq];dsimp only;rw[h1];simp only[eM2];unfold nQ;by_cases c:t∈ex
 ·rw[dp c,cond_true,Bool.true_or];rfl
 ·rw[dn c,cond_false,Bool.false_or,Bool.not_not]
theorem rJ2 (hx:yP ex) (hl:ex.length≤1000000) (l:List Int) (hn:l.length≤1000000):∀(k i:Nat),l.length-i=k→i≤l.length →
  (∃j,i≤j∧j<l.length∧nQ ex e (l.getD j 0)=false∧(∀q,i≤q→q<j→nQ ex e (l.getD q 0)=true)∧kB.l1 (l.length:Int) (i:Int) l (z,st,du,rc,(f,iv,ct,un,wk,en,mo,we,yd,md,dy,ho,mi,se,po,()),da,ex,()) e=some ((j:Int),l,((z,st,du,rc,f,iv,ct,un,wk,en,mo,we,yd,md,dy,ho,mi,se,po,da,ex,()),(e,()),()),())) ∨
  ((∀q,i≤q→q<l.length→nQ ex e (l.getD q 0)=true)∧kB.l1 (l.length:Int) (i:Int) l (z,st,du,rc,(f,iv,ct,un,wk,en,mo,we,yd,md,dy,ho,mi,se,po,()),da,ex,()) e=some (-1,l,((z,st,du,rc,f,iv,ct,un,wk,en,mo,we,yd,md,dy,ho,mi,se,po,da,ex,()),(e,()),()),())):=by
 intro k
 induction k with
 | zero=>
  intro i hk hi;refine .inr ⟨fun q h1 h2=>by omega,?_⟩;rw[kB.l1_eq];simp(disch:=omega)only[ss]
 | succ k ih=>
  intro i hk hi;have hlt:i<l.length:=by omega
  rw[kB.l1_eq];dsimp only;have h1:=tH2 z st du rc f iv ct un wk en mo we yd md dy ho mi se po da ex e hx hl (l.getD i 0);simp(disch:=omega)only[ss,h1];cases hkp:nQ ex e (l.getD i 0)with
  | false=>
   refine .inl ⟨i,oM2 _,hlt,hkp,fun q h1 h2=>by omega,?_⟩;rfl
  | true=>
   simp only[oN2,cond_false];rcases ih (i+1) (by omega) (by omega)with⟨j,a1,a2,a3,a4,a5⟩ | ⟨a1,a2⟩
   ·refine .inl ⟨j,by omega,a2,a3,fun q q1 q2=>?_,a5⟩;by_cases c:q=i
    ·rw[c];exact hkp
    ·exact a4 q (by omega) q2
   ·refine .inr ⟨fun q q1 q2=>?_,a2⟩;by_cases c:q=i
    ·rw[c];exact hkp
    ·exact a1 q (by omega) q2
theorem dI2 (hx:yP ex) (hl:ex.length≤1000000) (l:List Int) (hn:l.length≤1000000):∀(k i p:Nat) (y:List Int),l.length-i=k→i≤l.length→p≤i→y.length=l.length→y.take p=(l.take i).filter (nQ ex e)→y.drop i=l.drop i →
  oA.l2 (p:Int) (i:Int) y (z,st,du,rc,(f,iv,ct,un,wk,en,mo,we,yd,md,dy,ho,mi,se,po,()),da,ex,()) e=some (l.filter (nQ ex e),((z,st,du,rc,f,iv,ct,un,wk,en,mo,we,yd,md,dy,ho,mi,se,po,da,ex,()),(e,()),()),()):=by
 intro k
 induction k with
 | zero=>
  intro i p y hk hi hp hy ht hd;have e1:i=l.length:=by omega
  subst e1;rw[fO2]at ht;have hlen:(y.take p++List.replicate (y.length-p) 0).length=y.length:=by simp;omega
  have htk:(y.take p++List.replicate (y.length-p) 0).take p=l.filter (nQ ex e):=by rw[hP2 (by rw[sM2];omega),List.take_take,Nat.min_self,ht]
  rw[oA.l2_eq];simp(disch:=omega)only[ss,hlen,htk,oA.l3_eq]
 | succ k ih=>
  intro i p y hk hi hp hy ht hd;have hlt:i<l.length:=by omega
  have hg:y.getD i 0=l.getD i 0:=by have h1:=nC 0 (show i<y.length by omega);have h2:=nC 0 hlt;rw[hd,h2]at h1;injection h1 with h1 _;exact h1.symm
  have hd':y.drop (i+1)=l.drop (i+1):=by have h1:=congrArg (List.drop 1) hd;rwa[eP2,eP2]at h1
  have h1:=tH2 z st du rc f iv ct un wk en mo we yd md dy ho mi se po da ex e hx hl (l.getD i 0);rw[oA.l2_eq];dsimp only;simp(disch:=omega)only[ss,hg,h1];cases hkp:nQ ex e (l.getD i 0)with
  | false=>
   simp only[gO2,cond_true,oN2,cond_false];exact ih (i+1) p y (by omega) (by omega) (by omega) hy (by rw[kE 0 hlt,List.filter_append,ht,xW1 hkp,qM2]) hd'
  | true=>
   simp only[gO2,cond_true,oN2,cond_false];refine ih (i+1) (p+1) (y.set p (l.getD i 0)) (by omega) (by omega) (by omega) (by rw[rO2];exact hy) ?_ ?_
   ·rw[kE 0 hlt,List.filter_append,←ht];rw[kE 0 (show p<(y.set p (l.getD i 0)).length by rw[rO2];omega),List.take_set_of_le (oM2 _)]
    congr 1
    rw[dM2,List.getElem?_set_self (by omega),xO2,jY1 hkp]
   ·rw[List.drop_set_of_lt (by omega)];exact hd'
theorem bA2 (hx:yP ex) (hl:ex.length≤1000000) (l:List Int) (hn:l.length≤1000000):oA.f l ((z,st,du,rc,f,iv,ct,un,wk,en,mo,we,yd,md,dy,ho,mi,se,po,da,ex,()),(e,()),())=some (l.filter (nQ ex e),((z,st,du,rc,f,iv,ct,un,wk,en,mo,we,yd,md,dy,ho,mi,se,po,da,ex,()),(e,()),()),()):=by
 have hI:∀v,kB.l1 (l.length:Int) ((0:Nat):Int) l (z,st,du,rc,(f,iv,ct,un,wk,en,mo,we,yd,md,dy,ho,mi,se,po,()),da,ex,()) e=v→kB.f l ((z,st,du,rc,f,iv,ct,un,wk,en,mo,we,yd,md,dy,ho,mi,se,po,da,ex,()),(e,()),())=v:=fun v h=>by rw[kB.f_eq];exact h
 rw[oA.f_eq];dsimp only;rcases rJ2 z st du rc f iv ct un wk en mo we yd md dy ho mi se po da ex e hx hl l hn _ 0 rfl (iM2 _)with⟨j,a1,a2,a3,a4,a5⟩ | ⟨a1,a2⟩
 ·rw[hI _ a5];simp(disch:=omega)only[ss];refine dI2 z st du rc f iv ct un wk en mo we yd md dy ho mi se po da ex e hx hl l hn _ (j+1) j l rfl (by omega) (by omega) rfl ?_ rfl;rw[kE 0 a2,List.filter_append]
  have:(l.take j).filter (nQ ex e)=l.take j:=List.filter_eq_self.2 fun x hx=>by obtain⟨q,h1,h2⟩:=qE1 hx;rw[sM2]at h1;rw[←h2,dM2,List.getElem?_take_of_lt (by omega),←dM2];exact a4 q (by omega) (by omega)
  rw[this,xW1 a3,qM2]
 ·rw[hI _ a2];simp(disch:=omega)only[ss,oA.l1_eq]
  have:l.filter (nQ ex e)=l:=List.filter_eq_self.2 fun x hx=>by obtain⟨q,h1,h2⟩:=qE1 hx;rw[←h2];exact a1 q (by omega) h1
  rw[this]
theorem qG1 (y:List Int) (hy:y.length≤1000000):zC.f y=some (y.mergeSort fun x y=>decide (x≤y),()):=by rw[zC.f_sem];show(bif decide (List.length y≤wC)then some (y.mergeSort fun x y=>decide (x≤y),())else none)=_;rw[dp (by simp only[wC];omega),cond_true]
theorem cF1 (y:List Int) (hy:y.length≤1000000):bF.f y=some (y,()):=by rw[bF.f_sem];show(bif decide (List.length y≤wC)then some (y,())else none)=_;rw[dp (by simp only[wC];omega),cond_true]
theorem fL1 (y:List Int) (x:Int):x∈dds y↔x∈y:=by
 cases y with
 | nil=>exact Iff.rfl
 | cons a r=>
  show x∈a::dd a r↔_;rw[jM2,jM2];have:=sT1 r a x;exact⟨fun h=>(this.1 h.symm).symm,fun h=>(this.2 h.symm).symm⟩
theorem wI1 (y:List Int) (h:y.Pairwise (· ≤ ·)):yP (dds y):=by
 cases y with
 | nil=>exact List.Pairwise.nil
 | cons a r=>exact xF1 r a h
theorem vI1 (y:List Int):(y.mergeSort fun x y=>decide (x≤y)).Pairwise (· ≤ ·):=
 (List.pairwise_mergeSort (le:=fun x y:Int=>decide (x≤y)) (fun a b c h1 h2=>by simp at *;omega) (fun a b=>by simp;omega) y).imp fun h=>of_decide_eq_true h
theorem rA1 :∀(l:List Int) (p:Int),(dd p l).length≤l.length
 | [],_=>oM2 _
 | a::l,p=>by unfold dd;have:=rA1 l a;split <;> simp <;> omega
theorem qJ1 (y:List Int):(dds y).length≤y.length:=by
 cases y with
 | nil=>exact oM2 _
 | cons a r=>exact Nat.succ_le_succ (rA1 r a)
noncomputable def locL (l da ex:List Int) (e:Int):List Int:=(dds ((l++da).mergeSort fun x y=>decide (x≤y))).filter (nQ ex e)
theorem sZ1 {l da ex:List Int} {e x:Int}:x∈locL l da ex e↔(x∈l∨x∈da)∧x∉ex∧x<e:=by unfold locL nQ;rw[List.mem_filter,fL1,List.mem_mergeSort,pM2];simp
theorem zT1 (l da ex:List Int) (e:Int):yP (locL l da ex e):=List.Pairwise.filter _ (wI1 _ (vI1 _))
noncomputable def locE (l da ex:List Int) (e:Int):Option (List Int×Int×Unit):=if((locL l da ex e).length:Int)>4096 then some ([],10,())else some (locL l da ex e,0,())
theorem gF2 (hx:yP ex) (hl:ex.length≤1000000) (l:List Int) (h1:l.length≤400000) (h2:da.length≤400000):
  sE.l1 l (z,st,du,rc,(f,iv,ct,un,wk,en,mo,we,yd,md,dy,ho,mi,se,po,()),da,ex,()) e=locE l da ex e∧sE.l1a (z,st,du,rc,(f,iv,ct,un,wk,en,mo,we,yd,md,dy,ho,mi,se,po,()),da,ex,()) e l=locE l da ex e:=by
 have hlim:wC=17179869184:=rfl;have hs:=qG1 (l++da) (by rw[cM2];omega);have hc:=oU ((l++da).mergeSort fun x y=>decide (x≤y)) (by rw[List.length_mergeSort,cM2];omega);have hdl:=qJ1 ((l++da).mergeSort fun x y=>decide (x≤y));rw[List.length_mergeSort,cM2]at hdl;have hd:=bA2 z st du rc f iv ct un wk en mo we yd md dy ho mi se po da ex e hx hl (dds ((l++da).mergeSort fun x y=>decide (x≤y))) (by omega);have hk:=cF1 l (by omega)
 have fin:(bif decide (((locL l da ex e).length:Int)>4096)then(some (([]:List Int),(10:Int),()))else(some (locL l da ex e,0,())))=locE l da ex e:=by
  unfold locE;by_cases c:((locL l da ex e).length:Int)>4096
  ·rw[dp c,if_pos c];rfl
  ·rw[dn c,if_neg c];rfl
 rw[sE.l1_eq,sE.l1a_eq,hk];dsimp only;simp only[eM2];rw[dp (by omega),cond_true,hs];simp only[eM2];rw[hc];simp only[eM2];rw[hd];exact⟨fin,fin⟩
end
theorem vK2 :bG.f 3=some (-62072524800,()):=by have h:=eI 3 1 1 0 0 0 (-718432) ⟨by decide,by decide⟩ (by omega) (by omega) (by omega);rw[show(-718432:Int)*86400+3600*0+60*0+0 = -62072524800 by omega]at h;rw[bG.f_eq,h];rfl
theorem iK2 :bG.f 9998=some (253339228800,()):=by have h:=eI 9998 1 1 0 0 0 2932167 ⟨by decide,by decide⟩ (by omega) (by omega) (by omega);rw[show(2932167:Int)*86400+3600*0+60*0+0=253339228800 by omega]at h;rw[bG.f_eq,h];rfl
theorem sH2 :sE.f (0,1767603600,3600,true,r0,[],[],()) 1772496000=some ([1767603600,1768208400],0,()):=by
 rw[sE.f_eq,ex_m];dsimp only;simp only[eM2,oN2,cond_false,cond_true];rw[ex_l];simp only[eM2];have h:=(gF2 0 1767603600 3600 true 3 1 2 0 0 false [] [] [] [] [] [] [] [] [] [] [] 1772496000 List.Pairwise.nil (by simp) [1767603600,1768208400] (by simp) (by simp)).1;have hL:locL [1767603600,1768208400] [] [] 1772496000=[1767603600,1768208400]:=by
  refine tH1 (zT1 _ _ _ _) (by unfold yP;simp) fun x=>?_
  rw[sZ1];simp;omega
 unfold locE at h;rw[hL,if_neg (by simp)]at h;exact h
theorem gB2 :kD.f (0,1767603600,3600,true,r0,[],[],()) [(3600,[],[],0,())] 1772323200=some ([(1767600000,1767603600,()),(1768204800,1768208400,())],0,()):=by
 let U:Int→Int:=fun t=>t-3600
 have hU:okU (([(3600,[],[],0,())]:List Zn).getD (0:Int).toNat zZ) U [1767603600,1768208400]:=by
  intro t ht;simp only[jM2,List.not_mem_nil,or_false]at ht;rcases ht with rfl | rfl
  ·exact⟨qK2,by decide,by decide⟩
  ·exact⟨dK2,by decide,by decide⟩
 obtain⟨r,h1,h2,h3⟩:=zU1 [(3600,[],[],0,())] 1772323200 [1767603600,1768208400] U (0,1767603600,3600,true,r0,[],[],()) (by simp) (by simp) (by simp) hU;have hs:spF U 3600 1772323200 [1767603600,1768208400]=[(1767600000,1767603600,()),(1768204800,1768208400,())]:=by decide
 have h1:r.Perm [(1767600000,1767603600,()),(1768204800,1768208400,())]:=by rw[←hs];exact h1
 have hr:r=[(1767600000,1767603600,()),(1768204800,1768208400,())]:=by
  have hl:=h1.length_eq
  match r,hl with
  | [a,b],_=>
   have ha:=h1.mem_iff.1 (show a∈[a,b] by simp);have hb:=h1.mem_iff.1 (show b∈[a,b] by simp);have hab:=(pN2.1 h2).1 b (by simp);have q1:=h1.mem_iff.2 (show((1767600000,1767603600,()):Sp)∈_ by simp);have q2:=h1.mem_iff.2 (show((1768204800,1768208400,()):Sp)∈_ by simp);simp only[jM2,List.not_mem_nil,or_false]at ha hb q1 q2;rcases ha with rfl | rfl <;> rcases hb with rfl | rfl
   ·simp at q2
   ·rfl
   ·simp at hab
   ·simp at q1
 subst hr;rw[kD.f_eq,ex_m];dsimp only;simp only[eM2,oN2,cond_false];rw[show dD1.f (([(3600,[],[],0,())]:List Zn).getD (0:Int).toNat (0,[],[],0,()))=some (true,())from ex_z,vK2,iK2];simp(disch:=omega)only[ss,kD.l1_eq,kM2,xM2];rw[show(1772323200+172800:Int)=1772496000 from rfl,sH2];simp(disch:=omega)only[ss];rw[show(([1767603600,1768208400]:List Int).length:Int)=((([1767603600,1768208400]:List Int).length:Nat):Int)from rfl];refine Eq.trans h3 ?_;decide
theorem yK :qE.f=some (true,()):=by rw[qE.f_eq,ex_p,pL2];simp only[eM2,kM2,xM2];rw[gB2,ex_a,ex_b];simp only[eM2];rw[show w6 (1767600000+3600)=1767603600 by rw[wr (by omega) (by omega)];rfl,show w6 (1768204800+3600)=1768208400 by rw[wr (by omega) (by omega)];rfl,rB2 _ _ (by simp)];simp(disch:=omega)only[ss]
end Go.GV.YtidgapgbnlcjgaaGreatDoor
