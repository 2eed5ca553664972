/-
Part of the words that MeetTexts is proved with: no statement of its own, no conditions.
-/
import Derived.Test.YtegmfagkklekaaaGreatDoorFMeetTextsr
set_option linter.unusedVariables false
set_option linter.unusedSimpArgs false
namespace Go.GV
theorem wr {x:Int} (h1: -9223372036854775808≤x) (h2:x≤9223372036854775807):w6 x=x:=Go.IntWalk.i64_in x ⟨h1,h2⟩
theorem sY {n:Nat} (h:n<9223372036854775807):w6 ((n:Int)+1)=((n+1:Nat):Int):=by rw[wr (by omega) (by omega)];omega
theorem dY1 (c d:UInt8):((c.toNat:Int)=(d.toNat:Int))↔c=d:=by
 constructor
 ·intro h;exact UInt8.toNat_inj.1 (by omega)
 ·rintro rfl;rfl
theorem rA2 (c:UInt8) (n:Nat) (h:n<256):((c.toNat:Int)=(n:Int))↔c=UInt8.ofNat n:=by have:=dY1 c (UInt8.ofNat n);rw[UInt8.toNat_ofNat',dL2 (by simpa using h)]at this;exact this
theorem eE2 (c:UInt8):(0:Int)≤(c.toNat:Int)∧(c.toNat:Int)<256:=⟨by omega,by have:=c.toNat_lt;omega⟩
section
variable {α : Type} {p : Prop} [Decidable p] {a b : α}
theorem bN (h:p):(bif decide p then a else b)=a:=by simp[h]
theorem pM (h:¬p):(bif decide p then a else b)=b:=by simp[h]
end
theorem dp {p:Prop} [Decidable p] (h:p):decide p=true:=decide_eq_true h
theorem dn {p:Prop} [Decidable p] (h:¬p):decide p=false:=decide_eq_false h
theorem uS1 (n m:Nat):((n:Int)+(m:Int)).toNat=n+m:=by omega
theorem sA1 (n:Nat):((n:Int)+1).toNat=n+1:=by omega
theorem qP1 (n:Nat):((n:Int)-1).toNat=n-1:=by omega
theorem tn_0 :(0:Int).toNat=0:=rfl
theorem tn_1 :(1:Int).toNat=1:=rfl
theorem ss :(∀(p:Prop) [Decidable p],p→decide p=true)∧(∀(p:Prop) [Decidable p],¬p→decide p=false)∧(∀(h:Decidable True),@decide True h=true)∧(∀(h:Decidable False),@decide False h=false) ∧
  ((!true)=false)∧((!false)=true)∧(∀b,(true&&b)=b)∧(∀b,(false&&b)=false)∧(∀b,(b&&true)=b)∧(∀b,(b&&false)=false) ∧
  (∀b,(true||b)=true)∧(∀b,(false||b)=b)∧(∀b,(b||true)=true)∧(∀b,(b||false)=b)∧(∀(x:Int),-9223372036854775808≤x→x≤9223372036854775807→w6 x=x) ∧
  (∀n m:Nat,((n:Int)+(m:Int)).toNat=n+m)∧(∀n:Nat,((n:Int)+1).toNat=n+1)∧(∀n:Nat,((n:Int)-1).toNat=n-1)∧((0:Int).toNat=0)∧((1:Int).toNat=1)∧(∀n:Nat,(n:Int).toNat=n) ∧
  (∀(α:Type) (a b:α),(bif true then a else b)=a)∧(∀(α:Type) (a b:α),(bif false then a else b)=b)∧(∀(α β:Type) (a:α) (f:α→Option β),(some a).bind f=f a):=
 ⟨fun _=>dp,fun _=>dn,fun _=>decide_true _,fun _=>decide_false _,rfl,rfl,Bool.true_and,Bool.false_and,bL2,Bool.and_false,Bool.true_or,Bool.false_or,Bool.or_true,Bool.or_false,fun _=>wr,uS1,sA1,qP1,tn_0,tn_1,fun _=>rfl,fun _ _ _=>rfl,fun _ _ _=>rfl,fun _ _ _ _=>rfl⟩
abbrev B (s:ByteArray):List UInt8:=s.data.toList
def mkS (l:List UInt8):ByteArray:=⟨l.toArray⟩
theorem B_mk (l:List UInt8):B (mkS l)=l:=rfl
theorem mk_B (s:ByteArray):mkS (B s)=s:=rfl
theorem yH {a b:ByteArray} (h:B a=B b):a=b:=by rw[←mk_B a,←mk_B b,h]
theorem tS (s:ByteArray):s.size=(B s).length:=by cases s;simp[ByteArray.size,B]
theorem hF2 (a b:ByteArray):B (a++b)=B a++B b:=by simp[B]
theorem xD (a b:List UInt8):mkS a++mkS b=mkS (a++b):=yH (by rw[hF2];rfl)
theorem iX1 (s:ByteArray) (a b:Nat):B (s.extract a b)=((B s).drop a).take (b-a):=by obtain⟨⟨l⟩⟩:=s;rw[ByteArray.extract_mk]
theorem qI1 (s:ByteArray):s.toList=B s:=ByteArray.toList_eq s
theorem iE (a b:ByteArray):(a.toList==b.toList)=decide (a=b):=by rw[qI1,qI1,Bool.eq_iff_iff,beq_iff_eq,decide_eq_true_eq];exact⟨yH,fun h=>by rw[h]⟩
theorem wH (s:ByteArray) (i:Nat):bt s (i:Int)=(((B s).getD i 0).toNat:Int):=rfl
theorem vO1 (xs:List Int):B (oJ xs)=xs.map fun n=>UInt8.ofNat n.toNat:=rfl
theorem dN (s:ByteArray) (k:Nat):B (s.extract 0 k)=(B s).take k:=by rw[iX1];simp
theorem zK (s:ByteArray) (k:Nat):B (s.extract k s.size)=(B s).drop k:=by rw[iX1,tS,yJ2 (by simp)]
theorem iI {c:UInt8} {l:List UInt8}:c∉l ∨ ∃a b,l=a++c::b∧c∉a:=by
 by_cases h:c∈l
 ·obtain⟨a,b,h1,h2⟩:=List.eq_append_cons_of_mem h;exact .inr ⟨a,b,h1,h2⟩
 ·exact .inl h
theorem oO {c:UInt8}:∀{l:List UInt8},c∉l→Lib.indexByte l c = -1
 | [],_=>rfl
 | b::l,h=>by simp only[vH2,not_or]at h;unfold Lib.indexByte;rw[if_neg (by simpa using Ne.symm h.1),oO h.2];decide
theorem cL {c:UInt8} {r:List UInt8}:∀{a:List UInt8},c∉a→Lib.indexByte (a++c::r) c=(a.length:Int)
 | [],_=>by simp[Lib.indexByte]
 | b::a,h=>by simp only[vH2,not_or]at h;have ih:=cL (r:=r) h.2;show(if(b==c)=true then(0:Int)else if(Lib.indexByte (a++c::r) c == -1)=true then -1 else Lib.indexByte (a++c::r) c+1)=_;rw[if_neg (by simpa using Ne.symm h.1),ih,if_neg (by simp)];simp
def segs (c:UInt8):List UInt8→List (List UInt8)
 | []=>[[]]
 | b::l=>if b=c then []::segs c l else match segs c l with | []=>[[b]] | s::r=>(b::s)::r
theorem mK {c:UInt8}:∀{l:List UInt8},c∉l→segs c l=[l]
 | [],_=>rfl
 | b::l,h=>by simp only[vH2,not_or]at h;simp only[segs];rw[if_neg (Ne.symm h.1),mK h.2]
theorem iK {c:UInt8} {r:List UInt8}:∀{a:List UInt8},c∉a→segs c (a++c::r)=a::segs c r
 | [],_=>by simp[segs]
 | b::a,h=>by simp only[vH2,not_or]at h;simp only[nL2,segs];rw[if_neg (Ne.symm h.1),iK h.2]
theorem lU (c:UInt8):∀l,segs c l≠[]
 | []=>by simp[segs]
 | b::l=>by
  simp only[segs];split
  ·simp
  ·split <;> simp
theorem bH {α:Type} (a b:List α) (i:Nat) (d:α) (h:i<a.length):(a++b).getD i d=a.getD i d:=by simp[qH2,rI2 h]
def I (l:List UInt8):List Int:=l.map fun b=>(b.toNat:Int)
theorem uG (l:List UInt8):(I l).length=l.length:=by simp[I]
theorem xE2 (l:List UInt8) (i:Nat):(I l).getD i 0=((l.getD i 0).toNat:Int):=by simp only[I,qH2,mJ2];cases l[i]? <;> rfl
theorem bW1 (a b:List UInt8):I (a++b)=I a++I b:=by simp[I]
theorem dF2 (l:List UInt8) (k:Nat):(I l).take k=I (l.take k):=by simp[I]
theorem iE2 (l:List UInt8) (k:Nat):(I l).drop k=I (l.drop k):=by simp[I]
theorem oP1 (s:ByteArray):tD s=I (B s):=rfl
theorem uA1 (l:List UInt8):oJ (I l)=mkS l:=yH (by
 rw[vO1,B_mk,I,List.map_map];refine(yK2 fun x _=>?_).trans (List.map_id l)
 simp[Function.comp])
theorem okI {a:List Int} (h:∀x∈a,hW1 .u8 x):a=I (a.map fun n=>UInt8.ofNat n.toNat):=by simp only[I,List.map_map];refine(List.map_id a).symm.trans (yK2 fun x hx=>?_);have h1:=h x hx;simp only[hW1]at h1;have h2:(0:Int)≤x∧x≤255:=h1;simp only[Function.comp,id,UInt8.toNat_ofNat'];omega
theorem mH {α:Type} (F:Nat→α):∀{k i:Nat},i≤k→(∀j,i≤j→j<k→F j=F (j+1))→F i=F k
 | 0,i,h,_=>by have:i=0:=by omega
               rw[this]
 | k+1,i,h,hs=>by
  by_cases he:i=k+1
  ·rw[he]
  ·rw[mH F (k:=k) (i:=i) (by omega) fun j h1 h2=>hs j h1 (by omega)];exact hs k (by omega) (by omega)
theorem qQ (p:Nat→Bool):∀n,(∀i,i<n→p i=false) ∨ ∃k,k<n∧p k=true ∧ ∀i,i<k→p i=false
 | 0=>.inl fun i h=>by omega
 | n+1=>by
  rcases qQ p n with h | ⟨k,h1,h2,h3⟩
  ·cases hn:p n with
   | false=>
    refine .inl fun i hi=>?_
    by_cases he:i=n
    ·rw[he];exact hn
    ·exact h i (by omega)
   | true=>exact .inr ⟨n,by omega,hn,h⟩
  ·exact .inr ⟨k,by omega,h2,h3⟩
theorem xK {α β:Type} (f:α→β) (l:List α) (i:Nat) (d:α) (e:β) (h:i<l.length):(l.map f).getD i e=f (l.getD i d):=by simp[qH2,h]
theorem oQ {α:Type} (l:List α) (i:Nat) (d:α) (h:i<l.length):l.drop i=l.getD i d::l.drop (i+1):=by rw[qH2,aI2 h,fK2];exact List.drop_eq_getElem_cons h
end Go.GV
namespace Go.GV.YtegmfagkklekaaaGreatDoor
open Go.Proofs
theorem sz1 (c:UInt8):(mkS [c]).size=1:=rfl
theorem wO (s:ByteArray) (c:UInt8):mF.f s (mkS [c])=some (Lib.indexByte (B s) c,()):=by
 rw[mF.f_eq,sz1];rw[iE];by_cases h:mkS [c]=s
 ·subst h;simp[B_mk,Lib.indexByte]
 ·have hb:(bt (mkS [c]) 0).toNat.toUInt8=c:=by show((c.toNat:Int).toNat).toUInt8=c;simp
  simp(disch:=omega)only[bN,pM,pM h,aG.f_eq,eF.f_sem,pH2];show some (Lib.indexByte (B s) (bt (mkS [c]) 0).toNat.toUInt8,())=_;rw[hb]
theorem wS1 (s:ByteArray) (c:UInt8):eI.f s (mkS [c])=some (Lib.indexByte (B s) c,()):=by rw[eI.f_eq,wO];rfl
theorem yT {s:ByteArray} {c:UInt8} (h:c∉B s):aE.f s (mkS [c])=some (s,mkS [],false,()):=by rw[aE.f_eq,yG.f_eq,wO,oO h];rfl
theorem nT {c:UInt8} {a b:List UInt8} (hs:a.length+b.length<9223372036854775800) (h:c∉a):aE.f (mkS (a++c::b)) (mkS [c])=some (mkS a,mkS b,true,()):=by
 rw[aE.f_eq,yG.f_eq,wO,B_mk,cL h];have hsz:(mkS (a++c::b)).size=a.length+b.length+1:=by rw[tS,B_mk];simp;omega
 have hw:w6 ((a.length:Int)+1)=((a.length+1:Nat):Int):=sY (by omega);have e1:(mkS (a++c::b)).extract 0 a.length=mkS a:=yH (by rw[dN,B_mk];simp[B_mk]);have e2:(mkS (a++c::b)).extract (a.length+1) (a.length+b.length+1)=mkS b:=yH (by rw[←hsz,zK,B_mk];simp[B_mk,sK2]);simp(disch:=omega)only[bN,pM,hsz,sz1,wr,pH2,uS1,sA1,oJ2,e1,e2,gJ2]
theorem aT1 (s:ByteArray) (c:UInt8):oG.f s (mkS [c])=some ((((B s).count c:Nat):Int),()):=by
 have hb:(bt (mkS [c]) 0).toNat.toUInt8=c:=by show((c.toNat:Int).toNat).toUInt8=c;simp
 rw[oG.f_eq,sz1];simp(disch:=omega)only[bN,pM,pG.f_sem,pH2];show some (((Lib.countByte (B s) (bt (mkS [c]) 0).toNat.toUInt8:Nat):Int),())=_;rw[hb];rfl
theorem kG1 {c:UInt8} (hc:True):∀(k n i:Nat) (s:List UInt8) (y:List ByteArray),n-i=k→i≤n→y.length=n+1→s.count c=n-i→n<4611686018427387904→s.length<4611686018427387904 →
  eC.l2 (mkS s) (mkS [c]) 0 n i y=some (y.take i++(segs c s).map mkS,()):=by
 intro k
 induction k with
 | zero=>
  intro n i s y hk hi hy hcn hn hs;have e:i=n:=by omega
  subst e;have hno:c∉s:=by rw[←List.count_eq_zero];omega
  have hw:w6 ((i:Int)+1)=((i+1:Nat):Int):=sY (by omega);rw[eC.l2_eq,mK hno];simp(disch:=omega)only[bN,pM,wr,xK2,hy,sA1,oJ2];rw[List.take_add_one,List.take_set_of_le (yH2 _)];simp[show i<y.length by omega]
 | succ k ih=>
  intro n i s y hk hi hy hcn hn hs;rcases iI (c:=c) (l:=s)with h | ⟨a,b,rfl,ha⟩
  ·rw[List.count_eq_zero.2 h]at hcn;omega
  ·have hca:a.count c=0:=List.count_eq_zero.2 ha;have hcb:b.count c=n-(i+1):=by rw[List.count_append,hca,List.count_cons_self]at hcn;omega
   have hl:a.length+b.length+1=(a++c::b).length:=by simp;omega
   have hsz:(mkS (a++c::b)).size=a.length+b.length+1:=by rw[tS,B_mk,hl]
   have hw:w6 ((i:Int)+1)=((i+1:Nat):Int):=sY (by omega);have hw2:w6 ((a.length:Int)+1)=((a.length+1:Nat):Int):=sY (by omega);have hw3:w6 ((a.length:Int))=((a.length:Nat):Int):=wr (by omega) (by omega);have e1:(mkS (a++c::b)).extract 0 a.length=mkS a:=yH (by rw[dN,B_mk];simp[B_mk]);have e2:(mkS (a++c::b)).extract (a.length+1) (a.length+b.length+1)=mkS b:=yH (by rw[←hsz,zK,B_mk];simp[B_mk,sK2]);have hrec:=ih n (i+1) b (y.set i (mkS a)) (by omega) (by omega) (by simpa using hy) hcb hn (by simp at hs;omega);rw[eC.l2_eq,wS1,B_mk,cL ha,iK ha];have h1:i<n:=by omega
   have h2:i<y.length:=by omega
   rw[hJ2,gJ2]at hrec;simp(disch:=omega)only[bN,pM,wr,hsz,sz1,pH2,uS1,sA1,oJ2,Int.add_zero,e1,e2,gJ2,hrec];rw[List.take_add_one,List.take_set_of_le (yH2 _)];simp[h2]
theorem nK {c:UInt8} (s:List UInt8) (hs:s.length<2147483648):pD.f (mkS s) (mkS [c])=some ((segs c s).map mkS,()):=by
 have hsz:(mkS s).size=s.length:=by rw[tS,B_mk]
 have hcl:s.count c≤s.length:=List.count_le_length;have hw:w6 (((s.count c:Nat):Int)+1)=((s.count c+1:Nat):Int):=sY (by omega);have hw2:w6 (((s.length:Nat):Int)+1)=((s.length+1:Nat):Int):=sY (by omega);have hw3:w6 (((s.count c+1:Nat):Int)-1)=((s.count c:Nat):Int):=by rw[wr (by omega) (by omega)];omega
 have hmm:mm false ((s.count c+1:Nat):Int) ((s.length+1:Nat):Int)=((s.count c+1:Nat):Int):=by
  simp only[mm,cond_false];split
  ·omega
  ·rfl
 rw[pD.f_eq,eC.f_eq];have hne:((mkS [c]).toList==(⟨#[]⟩:ByteArray).toList)=false:=by rw[iE];simp only[decide_eq_false_iff_not];intro h;have:=congrArg ByteArray.size h;rw[sz1]at this;cases this
 rw[hne,aT1,B_mk];simp(disch:=omega)only[bN,pM,cond_false,pH2,hw];rw[eC.l1_eq,hsz,hw2,hmm,hw3];have hml:cF1 .str ((s.count c+1:Nat):Int)=List.replicate (s.count c+1) ByteArray.empty:=rfl;rw[hml];have h2:=kG1 (c:=c) trivial (s.count c) (s.count c) 0 s (List.replicate (s.count c+1) ByteArray.empty) (by omega) (by omega) (by simp) (by omega) (by omega) (by omega);rw[show((0:Nat):Int)=0 from rfl]at h2;rw[h2];simp(disch:=omega)only[uM,mP1,bN,pM,decide_true,cond_true,pH2,List.take_zero,aJ2]
theorem bX (s:List UInt8) (c:UInt8):aD.f (mkS s) (mkS [c])=some (decide (s.head?=some c),()):=by
 have hsz:(mkS s).size=s.length:=by rw[tS,B_mk]
 rw[aD.f_eq,sz1,hsz]
 cases s with
 | nil=>simp
 | cons b l=>
  have e:(mkS (b::l)).extract 0 1=mkS [b]:=yH (by rw[dN];rfl);simp(disch:=omega)only[bN,pM,pH2,iE,zH2,oJ2,e,List.head?_cons];have hd:(mkS [b]=mkS [c])↔(some b=some c):=⟨fun h=>by have:=congrArg B h;simpa[B_mk]using this,fun h=>by cases h;rfl⟩
  have hd2:decide (mkS [b]=mkS [c])=decide (some b=some c):=decide_eq_decide.2 hd;rw[hd2];simp
theorem mB1 (s:List UInt8) (c:UInt8):nD.f (mkS s) (mkS [c])=some (decide (s.head?=some c),()):=by
 have hsz:(mkS s).size=s.length:=by rw[tS,B_mk]
 rw[nD.f_eq,aD.f_eq,sz1,hsz]
 cases s with
 | nil=>simp
 | cons b l=>
  have e:(mkS (b::l)).extract 0 1=mkS [b]:=yH (by rw[dN];rfl);simp(disch:=omega)only[bN,pM,pH2,iE,zH2,oJ2,e,List.head?_cons];have hd:(mkS [b]=mkS [c])↔(some b=some c):=⟨fun h=>by have:=congrArg B h;simpa[B_mk]using this,fun h=>by cases h;rfl⟩
  have hd2:decide (mkS [b]=mkS [c])=decide (some b=some c):=decide_eq_decide.2 hd;rw[hd2];simp
theorem iX (s:List UInt8) (c:UInt8) (hs:s.length<4611686018427387904):yF.f (mkS s) (mkS [c])=some (mkS (if s.getLast?=some c then s.dropLast else s),()):=by
 have hsz:(mkS s).size=s.length:=by rw[tS,B_mk]
 rw[yF.f_eq,oF.f_eq,vF.f_eq,sz1,hsz];rcases pK2 s with rfl | ⟨l,b,rfl⟩
 ·simp
 ·rw[fL2]at hs hsz ⊢;have hl:(l++[b]).length=l.length+1:=by simp
  rw[hl]at hs hsz ⊢;have e1:(mkS (l++[b])).extract l.length (l.length+1)=mkS [b]:=yH (by rw[←hsz,zK,B_mk];simp[B_mk]);have e2:(mkS (l++[b])).extract 0 l.length=mkS l:=yH (by rw[dN,B_mk];simp[B_mk]);have hw:w6 (((l.length+1:Nat):Int)-((1:Nat):Int))=(l.length:Int):=by rw[wr (by omega) (by omega)];omega
  have hd:(mkS [b]=mkS [c])↔b=c:=⟨fun h=>by have:=congrArg B h;simpa[B_mk]using this,fun h=>by rw[h]⟩
  simp(disch:=omega)only[bN,pM,hw,pH2,iE,oJ2,e1,e2,List.getLast?_append,List.getLast?_singleton,Option.some_or,List.dropLast_concat];by_cases hb:b=c
  ·rw[bN (hd.2 hb),if_pos (by rw[hb])];rfl
  ·rw[pM (fun h=>hb (hd.1 h)),if_neg (by simpa using hb)];rfl
end Go.GV.YtegmfagkklekaaaGreatDoor
namespace Go.GV
theorem fV {α:Type} (o:List α) (p z:α):(o++[p]).getD o.length z=p:=by simp[qH2]
theorem oX1 {α:Type} (o:List α) (p v:α):(o++[p]).set o.length v=o++[v]:=by simp
theorem fJ1 {α:Type} (o:List α) (p:α):(o++[p]).length=o.length+1:=by simp
theorem uR {n:Nat} (h0:0<n) (h:n<4611686018427387904):w6 ((n:Int)-1)=((n-1:Nat):Int):=by rw[wr (by omega) (by omega)];omega
theorem iY {α:Type} (l:List α):l=[] ∨ ∃o p,l=o++[p]:=by
 rcases pK2 l with h | ⟨o,p,h⟩
 ·exact .inl h
 ·exact .inr ⟨o,p,by simpa using h⟩
theorem uH {α:Type} {l:List α} {i:Nat} (z:α) (h:i<l.length):l.getD i z=l[i]:=by simp[qH2,h]
theorem iD {α:Type} {l:List α} {i:Nat} (z:α) (h:i<l.length):l.getD i z∈l:=by rw[uH z h];exact tJ2 h
theorem oC {α:Type} {l:List α} {i:Nat} (z:α) (h:i<l.length):l.drop i=l.getD i z::l.drop (i+1):=oQ l i z h
theorem tE {α:Type} {l:List α} {i:Nat} (z:α) (h:i<l.length):l.take (i+1)=l.take i++[l.getD i z]:=by rw[List.take_add_one,aI2 h,uH z h];rfl
theorem xM1 {α:Type} {R:α→α→Prop} {l:List α} {x:α} {k:Nat} (hs:l.Pairwise R) (h1:∀a∈l.take k,R a x) (h2:∀a∈l.drop k,R x a):(l.take k++([x]++l.drop k)).Pairwise R:=by
 rw[List.singleton_append];refine jL2.2 ⟨hs.sublist (List.take_sublist k l),dJ2.2 ⟨h2,hs.sublist (List.drop_sublist k l)⟩,?_⟩;intro a ha b hb;rcases vH2.1 hb with rfl | hb
 ·exact h1 a ha
 ·have:=hs;rw[←eJ2 k l]at this;exact(jL2.1 this).2.2 a ha b hb
theorem nU1 {α:Type} (l:List α) (x:α) (k:Nat):(l.take k++([x]++l.drop k)).Perm (x::l):=by
 have h:(l.take k++([x]++l.drop k)).Perm (x::(l.take k++l.drop k)):=by rw[List.singleton_append];exact List.perm_middle
 rwa[eJ2]at h
theorem mY1 (a b:Int):mm false a b=min a b:=by unfold mm;simp only[cond_false];split <;> omega
end Go.GV
