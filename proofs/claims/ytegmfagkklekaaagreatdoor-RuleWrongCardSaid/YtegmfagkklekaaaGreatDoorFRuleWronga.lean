/-
Part of the words that RuleWrong is proved with: no statement of its own, no conditions.
-/
import Derived.Test.YtegmfagkklekaaaGreatDoorY21
set_option linter.unusedVariables false
set_option linter.unusedSimpArgs false
namespace Go.GV.YtegmfagkklekaaaGreatDoor
open Go.Proofs
theorem mJ (l:List Int) (h:l.length≤1000000):rC.f l=some (l,()):=by have hlim:pC=17179869184:=rfl;rw[rC.f_eq];simp(disch:=omega)only[ss,jK2,hlim,xK2,rC.l1_eq]
theorem uQ1 (r:Rl) (h:tK r):fH.f r=some (r,()):=by have hlim:pC=17179869184:=rfl;unfold tK jO at h;obtain⟨h1,h2,h3,h4,h5,h6,h7,h8,h9⟩:=h;rw[fH.f_eq,mJ _ (by omega),mJ _ (by omega),mJ _ (by omega),mJ _ (by omega),mJ _ (by omega),mJ _ (by omega),mJ _ (by omega),mJ _ (by omega)];simp(disch:=omega)only[ss,jK2,hlim,xK2]
set_option maxRecDepth 1000000 in
theorem cE1 :yJ.f=some (true,()):=aD (E:=E) (f:=9) rfl (D:=c9) (c:=b9) (by kernel_rfl) (by kernel_rfl) _ 400 (by kernel_rfl)
theorem mM {α:Type} (l:List α) (x z:α):(l++[x]).getD l.length z=x:=by rw[rJ2,mK2 (aK2 _),Nat.sub_self];rfl
theorem rM1 {l:List Int} {lo hi x:Int} {z:Bool} (h:hi<x):¬wi (l++[x]) lo hi z:=fun q=>by have:=(q.1 l.length (by simp)).1.2.1;rw[mM]at this;omega
theorem mD2 {l:List Dy}:¬dwi (l++[(53,7,())]):=fun q=>by have:=(q.1 l.length (by simp)).2.2.2.1;unfold gD at this;rw[mM]at this;exact absurd this (by decide)
section
variable (f iv ct un wk : Int) (en : Bool) (mo we yd md : List Int) (dy : List Dy) (ho mi se po : List Int)
variable (f' iv' ct' un' wk' : Int) (en' : Bool) (mo' we' yd' md' : List Int) (dy' : List Dy) (ho' mi' se' po' : List Int)
theorem wP1 (hM:vA.f (f,iv,ct,un,wk,en,mo,we,yd,md,dy,ho,mi,se,po,())=some (true,())) (hs:jO mo' we' yd' md' dy' ho' mi' se' po') (hn:¬mayP f' iv' ct' un' wk' en' mo' we' yd' md' dy' ho' mi' se' po'):
  bB.l2 f iv ct un wk en mo we yd md dy ho mi se po f' iv' ct' un' wk' en' mo' we' yd' md' dy' ho' mi' se' po'=some (true,()):=by
 have g:=(sV f' iv' ct' un' wk' en' mo' we' yd' md' dy' ho' mi' se' po' hs).2 hn;have p:=xW1 (f',iv',ct',un',wk',en',mo',we',yd',md',dy',ho',mi',se',po',()) g;obtain⟨b,h1,h2⟩:=jS (f',iv',ct',un',wk',en',mo',we',yd',md',dy',ho',mi',se',po',()) (f,iv,ct,un,wk,en,mo,we,yd,md,dy,ho,mi,se,po,()) hs;have hb:b=false:=by
  cases b with
  | false=>rfl
  | true=>
   rw[h2.1 rfl,hM]at g;cases g
 subst hb;have hnil:((mkS []).toList==(⟨#[]⟩:ByteArray).toList)=true:=beq_self_eq_true _;rw[bB.l2_eq,p,cE1];simp only[qJ2,cond_true,g,jL2,hnil,decide_true,h1]
end
theorem zT1 {α β:Type} {l:List α} {x:β} {d:Decidable (l.length+[x].length≤pC)} (h:l.length≤60):@decide (l.length+[x].length≤pC) d=true:=by have hlim:pC=17179869184:=rfl;refine decide_eq_true ?_;rw[hlim,sJ2];omega
theorem zY (r:Rl) (n:Int):bB.f r n=some (true,()):=by
 obtain⟨b,hb,hsh⟩:=xK1 r;obtain⟨f,iv,ct,un,wk,en,mo,we,yd,md,dy,ho,mi,se,po,⟨⟩⟩:=r;have l1t:bB.l1 n true f iv ct un wk en mo we yd md dy ho mi se po=some (true,()):=by rw[bB.l1_eq,cond_true,cE1];rfl
 rw[bB.f_eq,cE1];simp only[qJ2,zK2,cond_false];rw[hb];simp only[qJ2]
 cases b with
 | false=>rw[jL2,cond_true,l1t]
 | true=>
  have hr:=hsh rfl;rw[zK2,cond_false];obtain⟨m,hM⟩:=qV _ hr;rw[hM];simp only[qJ2]
  cases m with
  | false=>rw[jL2,l1t]
  | true=>
   have hC:=uQ1 _ hr;obtain⟨_,_,_,_,h60,_⟩:=lZ1 _ hr hM;have hp:=rV hr hM;unfold sh60 at h60;dsimp only at h60 hp;obtain⟨s1,s2,s3,s4,s5,s6,s7,s8,s9⟩:=h60;have E:=wP1 f iv ct un wk en mo we yd md dy ho mi se po;have sh:∀mo' md' dy' ho' mi',mo'.length≤100→md'.length≤100→dy'.length≤100→ho'.length≤100→mi'.length≤100→jO mo' we yd md' dy' ho' mi' se po:=fun _ _ _ _ _ _ _ _ _ _=>by unfold jO;omega
   rw[zK2,bB.l1_eq,cond_false,hC];simp only[qJ2];by_cases c0:n=0
   ·rw[dp c0,cond_true,zT1 s1,cond_true];exact E f iv ct un wk en (mo++[13]) we yd md dy ho mi se po hM (sh _ _ _ _ _ (by simp;omega) (by omega) (by omega) (by omega) (by omega)) fun q=>rM1 (by omega) q.2.1.1
   rw[dn c0,cond_false];by_cases c1:n=1
   ·rw[dp c1,cond_true,zT1 s4,cond_true];exact E f iv ct un wk en mo we yd (md++[32]) dy ho mi se po hM (sh _ _ _ _ _ (by omega) (by simp;omega) (by omega) (by omega) (by omega)) fun q=>rM1 (by omega) q.2.1.2.2.2.1
   rw[dn c1,cond_false];by_cases c2:n=2
   ·rw[dp c2,cond_true,zT1 s6,cond_true];exact E f iv ct un wk en mo we yd md dy (ho++[24]) mi se po hM (sh _ _ _ _ _ (by omega) (by omega) (by omega) (by simp;omega) (by omega)) fun q=>rM1 (by omega) q.2.1.2.2.2.2.1
   rw[dn c2,cond_false];by_cases c3:n=3
   ·rw[dp c3,cond_true,zT1 s7,cond_true];exact E f iv ct un wk en mo we yd md dy ho (mi++[60]) se po hM (sh _ _ _ _ _ (by omega) (by omega) (by omega) (by omega) (by simp;omega)) fun q=>rM1 (by omega) q.2.1.2.2.2.2.2.1
   rw[dn c3,cond_false];by_cases c4:n=4
   ·rw[dp c4,cond_true,zT1 s5,cond_true];exact E f iv ct un wk en mo we yd md (dy++[(53,7,())]) ho mi se po hM (sh _ _ _ _ _ (by omega) (by omega) (by simp;omega) (by omega) (by omega)) fun q=>mD2 q.2.1.2.2.2.2.2.2.2.2.1
   rw[dn c4,cond_false];by_cases c5:n=5
   ·rw[dp c5,cond_true];exact E f 0 ct un wk en mo we yd md dy ho mi se po hM hr fun q=>by have:=q.1.1.2.2.1;omega
   rw[dn c5,cond_false];by_cases c6:n=6
   ·rw[dp c6,cond_true];exact E f iv 4097 un wk en mo we yd md dy ho mi se po hM hr fun q=>by have:=q.1.1.2.2.2.2.2.1;omega
   rw[dn c6,cond_false];by_cases c7:n=7
   ·have h1:=hp.1.1;rw[dp c7,cond_true,wr (by omega) (by omega)];exact E (f+7) iv ct un wk en mo we yd md dy ho mi se po hM hr fun q=>by have:=q.1.1;omega
   rw[dn c7,cond_false];exact E f iv ct un 7 en mo we yd md dy ho mi se po hM hr fun q=>by have:=q.1.1.2.2.2.2.2.2.2;omega
end Go.GV.YtegmfagkklekaaaGreatDoor
