/-
Part of the words that MeetSpans is proved with: no statement of its own, no conditions.
-/
import Derived.Test.YtegmfagkklekaaaGreatDoorFMeetSpansh
import Derived.Shelf.GgSortFunc.InsertionK
import Derived.Shelf.SlSortCmp.Insertion
import Derived.Sort.AssemblyPlain
set_option linter.unusedVariables false
set_option linter.unusedSimpArgs false
namespace Go.GV
open Go.Proofs Go.Sort
mutual
def Ty.enc :(t:Ty)→t.D→List Value
 | .int k,x=>[.int k x]
 | .bool,x=>[.bool x]
 | .str,x=>[.string x]
 | .err,_=>[.nilIface]
 | .st fs,x=>fs.enc x
 | .row _ _,_=>[.nilIface]
 | .any _ _,_=>[.nilIface]
def Tys.enc :(ts:Tys)→ts.D→List Value
 | .nil,_=>[]
 | .cons t ts,x=>t.enc x.1++ts.enc x.2
end
mutual
def Ty.plain :Ty→Bool
 | .int _=>true
 | .bool=>true
 | .str=>true
 | .err=>false
 | .st fs=>fs.plain
 | .row _ _=>false
 | .any _ _=>false
def Tys.plain :Tys→Bool
 | .nil=>true
 | .cons t ts=>t.plain&&ts.plain
end
mutual
theorem Ty.enc_len :∀{t:Ty} {x:t.D},(t.enc x).length=t.sz
 | .int _,_ | .bool,_ | .str,_ | .err,_ | .row _ _,_ | .any _ _,_=>rfl
 | .st fs,_=>Tys.enc_len (ts:=fs)
theorem Tys.enc_len :∀{ts:Tys} {x:ts.D},(ts.enc x).length=ts.sz
 | .nil,_=>rfl
 | .cons t ts,_=>by simp only[Tys.enc,Tys.sz,jE2,Ty.enc_len,Tys.enc_len]
end
mutual
theorem Ty.enc_one :∀{t:Ty} {x:t.D},∀v∈t.enc x,v.oneCell'=true
 | .int _,_ | .bool,_ | .str,_ | .err,_ | .row _ _,_ | .any _ _,_=>by simp[Ty.enc,Value.oneCell']
 | .st fs,_=>Tys.enc_one (ts:=fs)
theorem Tys.enc_one :∀{ts:Tys} {x:ts.D},∀v∈ts.enc x,v.oneCell'=true
 | .nil,_=>by simp[Tys.enc]
 | .cons t ts,x=>by
  intro v hv;rcases xE2.1 hv with h | h
  ·exact Ty.enc_one v h
  ·exact Tys.enc_one v h
end
section
variable {w : World} {Z : Nat → Prop}
mutual
theorem Ty.enc_rep :∀{t:Ty} {x:t.D} {cs:List Value},t.plain=true→(t.Rep w Z x cs↔cs=t.enc x)
 | .int _,_,_,_ | .bool,_,_,_ | .str,_,_,_=>by simp only[Ty.Rep,Ty.enc]
 | .err,_,_,h | .row _ _,_,_,h | .any _ _,_,_,h=>by cases h
 | .st fs,_,_,h=>Tys.enc_rep (ts:=fs) h
theorem Tys.enc_rep :∀{ts:Tys} {x:ts.D} {cs:List Value},ts.plain=true→(ts.Rep w Z x cs↔cs=ts.enc x)
 | .nil,_,_,_=>by simp only[Tys.Rep,Tys.enc]
 | .cons t ts,x,cs,h=>by
  simp only[Tys.plain,iE2]at h;simp only[Tys.Rep,Tys.enc,Ty.enc_rep h.1,Tys.enc_rep h.2];constructor
  ·rintro⟨a,b,rfl,rfl,rfl⟩;rfl
  ·intro e;exact⟨_,_,e,rfl,rfl⟩
end
theorem kO {t:Ty} (hp:t.plain=true):∀{xs:List t.D} {us:List Value},RepL (t.Rep w Z) xs us↔us=xs.flatMap t.enc
 | [],us=>by simp[RepL]
 | x::xs,us=>by
  simp only[RepL,mG2,Ty.enc_rep hp,kO hp (xs:=xs)];constructor
  ·rintro⟨a,b,rfl,rfl,rfl⟩;rfl
  ·intro e;exact⟨_,_,e,rfl,rfl⟩
end
theorem pU {α:Type} [Inhabited α] (enc:α→List Value) (k:Nat) (hk:∀x,(enc x).length=k):∀(l:List α) (t:Nat),t<l.length*k→(l.flatMap enc)[t]?=some (enc l.toArray[t/k]!)[t%k]!
 | [],t,h=>by simp at h
 | x::l,t,h=>by
  have k0:0<k:=by rcases Nat.eq_zero_or_pos k with h0 | h0; · subst h0;simp at h
                  ·exact h0
  rw[iF2,Nat.add_mul,Nat.one_mul]at h;rw[mG2];by_cases ht:t<k
  ·rw[tF2 (by rw[hk];exact ht),Nat.div_eq_of_lt ht,Nat.mod_eq_of_lt ht];have hl:t<(enc x).length:=by rw[hk];exact ht
   simp[sE2 hl]
  ·rw[yF2 (by rw[hk];omega),hk,pU enc k hk l (t-k) (by omega)];obtain⟨u,rfl⟩:∃u,t=u+k:=⟨t-k,by omega⟩
   rw[Nat.add_sub_cancel,Nat.add_div_right u k0,Nat.add_mod_right];by_cases hu:u/k<l.length
   ·simp[hu]
   ·have:=Nat.div_lt_of_lt_mul (m:=u) (n:=k) (k:=l.length) (by rw[Nat.mul_comm];omega);omega
theorem vX {α:Type} [Inhabited α] (enc:α→List Value) (k:Nat) (hk:∀x,(enc x).length=k) (l:List α):(flatK enc k l.toArray).toList=l.flatMap enc:=by
 have hlen:(l.flatMap enc).length=l.length*k:=by
  induction l with
  | nil=>simp
  | cons x l ih=>rw[mG2,jE2,hk,ih,iF2,Nat.add_mul,Nat.one_mul,Nat.add_comm]
 refine List.ext_getElem? fun t=>?_
 by_cases ht:t<l.length*k
 ·rw[pU enc k hk l t ht,tG2];have hs:t<(flatK enc k l.toArray).size:=by simpa using ht
  have h:=get_flatK enc k l.toArray t (by simpa using ht);rw[getElem!_pos _ t hs]at h;rw[rG2 hs,h]
 ·rw[uG2 (by simpa using Nat.le_of_not_lt ht),uG2 (by rw[hlen];omega)]
theorem oS {w:World} {g:Nat} {cur:Array Value} {e:TypeId} {F:Array Value} (hb:w.heap[g]?=some (.cells cur e (0,0))) (hF:cur.toList.take F.size=F.toList):Holds id w g 0 F:=by
 intro j hj;have hs:F.size≤cur.size:=by have:=congrArg List.length hF;simp at this;omega
 have hc:cur[j]?=some F[j]!:=by
  have h1:(cur.toList.take F.size)[j]?=F.toList[j]?:=by rw[hF]
  rw[eH2,if_pos hj]at h1;simp only[tG2]at h1;rw[h1,rG2 hj,getElem!_pos F j hj]
 refine⟨?_,?_⟩
 ·simp[World.cell?,hb,hc]
 ·simp[World.frozen?,hb]
theorem aF1 {w:World} {g:Nat} {cur:Array Value} {e:TypeId} (F:Array Value) (n:Nat) (os:Array Obj) (hb:w.heap[g]?=some (.cells cur e (0,0))):
  (grow (putRow id (Sort.ahead w n) g 0 F) os).heap[g]?=some (.cells (putCells id 0 F cur) e (0,0)):=by
 have hg:g<w.heap.size:=(eG2.1 hb).1;rw[heap_grow_old _ _ (by simpa[putRow,mapBlock,Sort.ahead]using hg)];simp[putRow,mapBlock,Sort.ahead,Array.getElem?_modify,hb,onCells]
theorem dL1 {cur F:Array Value} (hs:F.size≤cur.size):(putCells id 0 F cur).toList.take F.size=F.toList:=by
 refine List.ext_getElem? fun j=>?_
 rw[eH2];by_cases hj:j<F.size
 ·rw[if_pos hj];have hc:j<cur.size:=by omega
  simp only[tG2,putCells,Array.getElem?_mapIdx,rG2 hc,rG2 hj,Option.map_some];rw[if_pos ⟨kE2 _,by omega⟩,Nat.sub_zero,getElem!_pos F j hj];rfl
 ·rw[if_neg hj,uG2 (by simpa using Nat.le_of_not_lt hj)]
theorem yB1 (w:World) (g:Nat) (F:Array Value) (n:Nat) (os:Array Obj) {M:Nat→Prop} (hM:M g):Frm M w (grow (putRow id (Sort.ahead w n) g 0 F) os):=by
 refine⟨rfl,rfl,rfl,by simp[putRow,mapBlock,Sort.ahead],fun k hk hm=>?_⟩;have hne:g≠k:=fun e=>hm (e ▸ hM)
 rw[heap_grow_old _ _ (by simpa[putRow,mapBlock,Sort.ahead]using hk)];simp[putRow,mapBlock,Sort.ahead,Array.getElem?_modify,hne]
theorem xE1 {α:Type} [Inhabited α] (enc:α→List Value) (k:Nat) (hk:∀x,(enc x).length=k) (a:Array α):(flatK enc k a).toList=a.toList.flatMap enc:=by have:=vX enc k hk a.toList;rwa[dG2]at this
theorem jT1 (w:World) (k:Nat) (os:Array Obj):Go.RowKit.Below w.heap.size w (grow (w.drewN k) os):=
 ⟨rfl,rfl,rfl,by simp[grow,World.drewN],fun b hb=>heap_grow_old _ _ hb⟩
def bY {α:Type} (z:α) (cf:α→α→Int) (l:List α):List α:=(@pdq α ⟨z⟩ (ltOf cf) l.toArray 0 l.length (Lib.bitLen l.length) true true).toList
def oK (fid:FuncId) (E:TypeId):FnD:=
 {fid:=fid,par:=.cons (.own E (.int .i64)) .nil,res:=.nil,n:=0,rv:=[],body:=none,an:=.no,sem:=fun x=>bif decide (List.length (α:=Int) x.1≤eD)then some (List.mergeSort (α:=Int) x.1 (fun x y=>decide (x≤y)),())else none }
def cN (fid:FuncId) (E:TypeId) (t:Ty) (f:FuncId) (S:List t.D→Option (List t.D)):FnD:=
 {fid:=fid,par:=.cons (.own E t) (.cons (.fn f .nil) .nil),res:=.nil,n:=0,rv:=[],body:=none,an:=.no,sem:=fun x=>bif decide (List.length (α:=t.D) x.1≤eD)then(S x.1).map fun ys=>(ys,(),())else none }
theorem kG1 {α:Type} (z:α) {cf:α→α→Int} (hO:SWO (ltOf cf)) (l:List α):(bY z cf l).Perm l:=by
 letI:Inhabited α:=⟨z⟩
 have h:=(pdq_sorts (ltOf cf) hO l.toArray 0 l.length (Lib.bitLen l.length) true true (kE2 _) (rE2 _) (Or.inl rfl)).1;have h2:=h.2.2;have hs:(pdq (ltOf cf) l.toArray 0 l.length (Lib.bitLen l.length) true true).size=l.length:=by simpa using h.1
 show((pdq (ltOf cf) l.toArray 0 l.length (Lib.bitLen l.length) true true).toList).Perm l;simpa[Array.extract_eq_self_of_le (Nat.le_of_eq hs)]using h2
theorem nB1 {α:Type} (z:α) {cf:α→α→Int} (hO:SWO (ltOf cf)) (l:List α):(bY z cf l).Pairwise fun x y=>¬cf y x<0:=by
 letI:Inhabited α:=⟨z⟩
 have h:=pdq_sorts (ltOf cf) hO l.toArray 0 l.length (Lib.bitLen l.length) true true (kE2 _) (rE2 _) (Or.inl rfl);have hs:(pdq (ltOf cf) l.toArray 0 l.length (Lib.bitLen l.length) true true).size=l.length:=by simpa using h.1.1
 rw[tH2];intro i j hi hj hij;have hi':i<(pdq (ltOf cf) l.toArray 0 l.length (Lib.bitLen l.length) true true).size:=hi;have hj':j<(pdq (ltOf cf) l.toArray 0 l.length (Lib.bitLen l.length) true true).size:=hj;have:=h.2 i j (kE2 _) hij (by omega);rw[getElem!_pos _ j hj',getElem!_pos _ i hi']at this;simpa[ltOf,bY]using this
def sub {α:Type} (ok:α→Bool):List α→List {p:α // ok p=true}
 | []=>[]
 | x::l=>if h:ok x=true then⟨x,h⟩::sub ok l else sub ok l
theorem pA1 {α:Type} {ok:α→Bool}:∀{l:List α},l.all ok=true→(sub ok l).map (·.1)=l
 | [],_=>rfl
 | x::l,h=>by simp only[kH2,iE2]at h;unfold sub;rw[dif_pos h.1,qF2,pA1 h.2]
def nQ {α:Type} (ok:α→Bool) (z:{p:α // ok p=true}) (cf:α→α→Int) (xs:List α):Option (List α):=
 bif xs.all ok then some ((bY z (fun a b=>cf a.1 b.1) (sub ok xs)).map (·.1))else none
theorem uR {α:Type} {ok:α→Bool} {z:{p:α // ok p=true}} {cf:α→α→Int} {xs ys:List α} (h:nQ ok z cf xs=some ys):xs.all ok=true∧ys=(bY z (fun a b=>cf a.1 b.1) (sub ok xs)).map (·.1):=by
 unfold nQ at h
 cases hb:xs.all ok with
 | false=>rw[hb]at h;cases h
 | true=>rw[hb]at h;exact⟨rfl,(oF2 h).symm⟩
theorem iR {α:Type} {ok:α→Bool} {z:{p:α // ok p=true}} {cf:α→α→Int} (hO:SWO (ltOf fun a b:{p:α // ok p=true}=>cf a.1 b.1)) {xs ys:List α} (h:nQ ok z cf xs=some ys):ys.Perm xs:=by obtain⟨h1,rfl⟩:=uR h;have:=(kG1 z hO (sub ok xs)).map (·.1);rwa[pA1 h1]at this
theorem gE1 {α:Type} {ok:α→Bool} {z:{p:α // ok p=true}} {cf:α→α→Int} (hO:SWO (ltOf fun a b:{p:α // ok p=true}=>cf a.1 b.1)) {xs ys:List α} (h:nQ ok z cf xs=some ys):ys.Pairwise fun x y=>¬cf y x<0:=by obtain⟨_,rfl⟩:=uR h;rw[List.pairwise_map];exact nB1 z hO _
def kR (a b c d:Int):Int:=bif decide (a=c)then b-d else a-c
theorem zF1 (a b c d:Int):decide (kR a b c d<0)=decide (a<c∨a=c∧b<d):=by
 unfold kR;by_cases h:a=c
 ·subst h;rw[decide_eq_true rfl,cond_true];exact decide_eq_decide.2 (by omega)
 ·rw[decide_eq_false h,cond_false];exact decide_eq_decide.2 (by omega)
theorem gT1 {α:Type} (f g:α→Int):SWO (ltOf fun x y=>kR (f x) (g x) (f y) (g y)) where
 irrefl x:=by unfold ltOf;rw[zF1];simp
 trans x y z h1 h2:=by unfold ltOf at *;rw[zF1]at *;simp only[decide_eq_true_eq]at *;omega
 ntrans x y z h1 h2:=by unfold ltOf at *;rw[zF1]at *;simp only[decide_eq_false_iff_not]at *;omega
def small (n:Int):Bool:=decide (-2305843009213693952≤n)&&decide (n≤2305843009213693952)
theorem bO {n:Int} (h:small n=true): -2305843009213693952≤n∧n≤2305843009213693952:=by unfold small at h;simpa using h
def qW (a b:Int):Int:=a-b
theorem qI1 (a b:Int):decide (qW a b<0)=decide (a<b):=by unfold qW;exact decide_eq_decide.2 (by omega)
theorem nX1 {α:Type} (f:α→Int):SWO (ltOf fun x y=>qW (f x) (f y)) where
 irrefl x:=by unfold ltOf;rw[qI1];simp
 trans x y z h1 h2:=by unfold ltOf at *;rw[qI1]at *;simp only[decide_eq_true_eq]at *;omega
 ntrans x y z h1 h2:=by unfold ltOf at *;rw[qI1]at *;simp only[decide_eq_false_iff_not]at *;omega
section
variable {P : Program} {GB : Nat → Prop} {G : World → Prop}
theorem aC1 {w:World} {g n cap:Nat} {cur:Array Value} {e:TypeId} {k:Nat} {F:Array Value} (hb:w.heap[g]?=some (.cells cur e (0,0))) (hn:n≤cap) (hc:cap≤maxLen) (hs:cur.size=cap*k) (hF:F.size=n*k) (q:Nat) (os:Array Obj):
  (grow (putRow id (Sort.ahead w q) g 0 F) os).ownsRow 0 e k (.slice (some ⟨g,0,none⟩) n cap) n F.toList:=by
 have hle:n*k≤cap*k:=Nat.mul_le_mul_right k hn;refine⟨by simpa using hF,.inr ⟨g,cap,putCells id 0 F cur,rfl,kE2 _,aF1 F q os hb,hn,hc,by simpa[putCells]using hs,?_⟩⟩;rw[←hF];exact dL1 (by omega)
theorem iA1 (t:Ty):∀xs:List t.D,(xs.flatMap t.enc).length=xs.length*t.sz
 | []=>by simp
 | x::xs=>by rw[mG2,jE2,Ty.enc_len,iA1 t xs,iF2,Nat.add_mul,Nat.one_mul,Nat.add_comm]
theorem bH1 {fid:FuncId} {E:TypeId} {t:Ty} {f:FuncId} {S:List t.D→Option (List t.D)} {fn:Func} {c:Code} (h1:P.funcs[fid]?=some fn) (h2:fn.body=some c) (h3:(fn.name == "runtime.NumGoroutine")=false) (hp:t.plain=true) (hS:∀xs ys,S xs=some ys→ys.length=xs.length)
  (hs:∀(w:World) (g cap:Nat) (xs ys:List t.D),S xs=some ys→(∀F:Array Value,F.toList=xs.flatMap t.enc→Holds id w g 0 F)→g<w.heap.size→xs.length<4611686018427387904 →
   Calls P fid #[.slice (some ⟨g,0,none⟩) xs.length cap,.func (.func f) #[] #[]] w fun e w'=>e = .returned (.tuple #[]) ∧ ∃(F:Array Value) (n:Nat) (os:Array Obj),F.toList=ys.flatMap t.enc∧w'=grow (putRow id (Sort.ahead w n) g 0 F) os)
  (hn:∀w:World,Calls P fid #[.slice none 0 0,.func (.func f) #[] #[]] w fun e w'=>e = .returned (.tuple #[])∧w'=w):
  ∀y r,(cN fid E t f S).sem y=some r→FnOK P GB G (cN fid E t f S) y r:=by
 suffices key:∀(xs:List t.D) r,(cN fid E t f S).sem (xs,(),())=some r→FnOK P GB G (cN fid E t f S) (xs,(),()) r from fun⟨xs,(),()⟩ r hr=>key xs r hr
 intro xs r hr;have hr:(bif decide (List.length (α:=t.D) xs≤eD)then(S xs).map fun ys=>((ys,(),()):List t.D×Unit×Unit)else none)=some r:=hr;have hlim0:List.length (α:=t.D) xs≤eD:=by
  by_cases hx:List.length (α:=t.D) xs≤eD
  ·exact hx
  ·rw[decide_eq_false hx]at hr;cases hr
 rw[decide_eq_true hlim0,cond_true]at hr;have hq:∃ys,S xs=some ys∧r=((ys,(),()):List t.D×Unit×Unit):=by
  cases hys:S xs with
  | none=>rw[hys]at hr;cases hr
  | some ys=>rw[hys]at hr;exact⟨ys,rfl,(oF2 hr).symm⟩
 obtain⟨ys,hys,rfl⟩:=hq;refine .inl ⟨⟨fn,c,h1,h2,h3⟩,fun w Z args bs _ _ hz _ hbs hrep=>?_⟩;obtain⟨v,vs',c1,d1,rfl,rfl,⟨cs,e1,us,us2,e2,how0,hl0,e3⟩,v2,vs2,c2,d2,rfl,rfl,⟨cs2,e4,ps,e5,hkw,e6,e7⟩,rfl,rfl⟩:=hrep;have e1:cs=[v]:=e1;subst e1;cases e2;have e4:cs2=[v2]:=e4;subst e4;cases e5;have e6:ps=[]:=e6;subst e6;subst e7;have hfb:Nat.blt f ifB=true:=by
  rcases hkw with h | ⟨p,h⟩
  ·exact h
  ·cases h
 rw[tF1 hfb []];have hrf:∀w:World,(Sh.fn f Shs.nil).Rep w Z () [Value.func (.func f) #[] #[]] []:=fun w=>⟨[],by rw[tF1 hfb []],hkw,rfl,rfl⟩
 have how:w.ownsRow 0 E t.sz v xs.length us2:=how0;have hl:RepL (t.Rep w Z) xs us2:=hl0;clear how0 hl0;have hus:us2=xs.flatMap t.enc:=(kO hp).1 hl;subst hus;have hyl:=hS xs ys hys;rcases how with⟨hlen,⟨rfl,hx⟩ | ⟨g,cap,cur,rfl,_,hb,hnc,hcm,hsz,htk⟩⟩
 ·have hx:xs=([]:List t.D):=aF2 hx;subst hx;refine Calls.mono (hn w) fun e w' he=>?_
  obtain⟨rfl,rfl⟩:=he;have e0:ys=([]:List t.D):=aF2 hyl;refine⟨_,rfl,Z,[],c1,Frm.refl _ _,fun b hb=>⟨hz b hb,fun _=>.inl hb⟩,?_,?_,?_,?_,fun q=>by cases q⟩
  ·unfold dV;rw[if_neg (by simp[cN])];exact⟨[],rfl,rfl,rfl⟩
  ·refine⟨_,_,c1,[],rfl,by simp,⟨[.slice none 0 0],rfl,.slice none 0 0,[],rfl,?_,?_,e3⟩,_,_,[],[],rfl,rfl,⟨_,rfl,hrf _⟩,rfl,rfl⟩
   ·show w'.ownsRow 0 E t.sz (.slice none 0 0) (ys:List t.D).length [];rw[e0];exact World.ownsRow_nil _ _ _ _
   ·show RepL _ ys [];rw[e0];rfl
  ·have e3:c1=[]:=e3;rw[e3];simp
  ·have e3:c1=[]:=e3;rw[e3];simp
 ·have hg:g<w.heap.size:=(eG2.1 hb).1;have e3:c1=[g]:=e3;have hlim:List.length (α:=t.D) xs<4611686018427387904:=Nat.lt_of_le_of_lt hlim0 (by decide)
  have hcall:=hs w g cap xs ys hys (fun F hF=>oS hb (by
   have e:F.size=xs.length*t.sz:=by rw[←wE2,hF];exact iA1 t xs
   rw[e,hF];exact htk)) hg hlim
  refine Calls.mono hcall fun e w' he=>?_
  obtain⟨rfl,F,q,os,hF,rfl⟩:=he;have hFs:F.size=xs.length*t.sz:=by rw[←wE2,hF,iA1 t ys,hyl]
  have hzg:∀b,Z b→b≠g:=fun b hzb e=>(hbs g (by rw[e3];simp)).1 (e ▸ hzb)
  have hfrm:Frm (· ∈ c1++(([]:List Nat)++[])) w (grow (putRow id (Sort.ahead w q) g 0 F) os):=yB1 w g _ q os (by rw[e3];simp);refine⟨_,rfl,Z,[],[g],hfrm,fun b hb=>⟨uF2 (hz b hb) hfrm.size,fun _=>.inl hb⟩,?_,?_,by simp,?_,fun q=>by cases q⟩
  ·unfold dV;rw[if_neg (by simp[cN])];exact⟨[],rfl,rfl,rfl⟩
  ·refine⟨_,_,[g],[],rfl,rfl,⟨_,rfl,.slice (some ⟨g,0,none⟩) xs.length cap,ys.flatMap t.enc,rfl,?_,(kO hp).2 rfl,rfl⟩,_,_,[],[],rfl,rfl,⟨_,rfl,hrf _⟩,rfl,rfl⟩;show World.ownsRow _ 0 E t.sz _ (ys:List t.D).length _;rw[hyl,←hF];exact aC1 hb hnc hcm hsz hFs q os
  ·intro b hb;have hb:b=g:=by simpa using hb
   subst hb;exact⟨fun h=>hzg _ h rfl,fun _=>by rw[e3];simp⟩
theorem bV {fid f:FuncId} {t:Ty} {ok:t.D→Bool} {z:{p:t.D // ok p=true}} {cf:t.D→t.D→Int} (hO:SWO (ltOf fun a b:{p:t.D // ok p=true}=>cf a.1 b.1))
  (hc:∀(w:World) (g cap:Nat) (d:Array {p:t.D // ok p=true}),@HoldsK _ ⟨z⟩ (fun p=>t.enc p.1) t.sz w g 0 d→g<w.heap.size→d.size<4611686018427387904 →
   Calls P fid #[.slice (some ⟨g,0,none⟩) d.size cap,.func (.func f) #[] #[]] w fun e w'=>e = .returned (.tuple #[]) ∧ ∃n os,w' = @sortWorldK _ ⟨z⟩ (fun p=>t.enc p.1) t.sz w g 0 n (@pdq _ ⟨z⟩ (ltOf fun a b=>cf a.1 b.1) d 0 d.size (Lib.bitLen d.size) true true) os)
  (w:World) (g cap:Nat) (xs ys:List t.D) (hy:nQ ok z cf xs=some ys) (hH:∀F:Array Value,F.toList=xs.flatMap t.enc→Holds id w g 0 F) (hg:g<w.heap.size) (hsz:xs.length<4611686018427387904):
  Calls P fid #[.slice (some ⟨g,0,none⟩) xs.length cap,.func (.func f) #[] #[]] w fun e w'=>e = .returned (.tuple #[]) ∧ ∃(F:Array Value) (n:Nat) (os:Array Obj),F.toList=ys.flatMap t.enc∧w'=grow (putRow id (Sort.ahead w n) g 0 F) os:=by
 obtain⟨ha,rfl⟩:=uR hy
 letI:Inhabited {p:t.D // ok p=true}:=⟨z⟩
 have hl:(sub ok xs).length=xs.length:=by have:=congrArg List.length (pA1 ha);simpa using this
 have hF:(flatK (fun p:{p:t.D // ok p=true}=>t.enc p.1) t.sz (sub ok xs).toArray).toList=xs.flatMap t.enc:=by
  rw[vX (fun p:{p:t.D // ok p=true}=>t.enc p.1) t.sz (fun _=>Ty.enc_len)]
  conv=>rhs;rw[←pA1 ha]
  rw[List.flatMap_map]
 have h:=hc w g cap (sub ok xs).toArray (hH _ hF) hg (by simpa[hl]using hsz);rw[nH2,hl]at h;refine Calls.mono h fun e w' q=>?_
 obtain⟨rfl,n,os,rfl⟩:=q;refine⟨rfl,_,n,os,?_,rfl⟩;rw[xE1 (fun p:{p:t.D // ok p=true}=>t.enc p.1) t.sz (fun _=>Ty.enc_len),List.flatMap_map];unfold bY;rw[hl]
theorem iK1 {fid:FuncId} {E:TypeId} {fn:Func} {c:Code} (h1:P.funcs[fid]?=some fn) (h2:fn.body=some c) (h3:(fn.name == "runtime.NumGoroutine")=false)
  (hs:∀(w:World) (g cap:Nat) (zs:List Int),Holds (Value.int .i64) w g 0 zs.toArray→g<w.heap.size→zs.length<4611686018427387904 →
   Calls P fid #[.slice (some ⟨g,0,none⟩) zs.length cap] w fun e w'=>e = .returned (.tuple #[]) ∧ ∃n os,w'=grow (putRow (Value.int .i64) (Sort.ahead w n) g 0 (zs.mergeSort fun x y=>decide (x≤y)).toArray) os)
  (hn:∀w:World,Calls P fid #[.slice none 0 0] w fun e w'=>e = .returned (.tuple #[])∧w'=w):
  ∀y r,(oK fid E).sem y=some r→FnOK P GB G (oK fid E) y r:=by
 have hput:∀(w:World) (g:Nat) (d:Array Int),putRow (Value.int .i64) w g 0 d=putRow id w g 0 (d.map (Value.int .i64)):=by
  intro w g d;refine mapBlock_congr w g _ _ fun cc _ _ _=>?_
  refine Array.ext_getElem? fun k=>?_
  simp only[putCells,Array.getElem?_mapIdx,Array.size_map]
  cases cc[k]? with
  | none=>rfl
  | some y=>
   simp only[Option.map_some];by_cases hr:0≤k∧k<0+d.size
   ·have hk:k-0<d.size:=by omega
    rw[if_pos hr,if_pos hr,getElem!_pos d _ hk,getElem!_pos (d.map (Value.int .i64)) _ (by simpa using hk)];simp
   ·rw[if_neg hr,if_neg hr]
 have henc:∀xs:List Int,List.flatMap (Ty.enc (.int .i64)) xs=xs.map (Value.int .i64):=by
  intro xs;show xs.flatMap (fun x:Int=>[Value.int .i64 x])=_
  induction xs with
  | nil=>rfl
  | cons x xs ih=>
   rw[mG2,qF2,ih];rfl
 suffices key:∀(xs:List Int) r,(oK fid E).sem (xs,())=some r→FnOK P GB G (oK fid E) (xs,()) r from fun⟨xs,()⟩ r hr=>key xs r hr
 intro xs r hr;have hr:(bif decide (List.length (α:=Int) xs≤eD)then some ((List.mergeSort (α:=Int) xs (fun x y=>decide (x≤y)),()):List Int×Unit)else none)=some r:=hr;have hlim0:List.length (α:=Int) xs≤eD:=by
  by_cases hx:List.length (α:=Int) xs≤eD
  ·exact hx
  ·rw[decide_eq_false hx]at hr;cases hr
 rw[decide_eq_true hlim0]at hr;cases hr;refine .inl ⟨⟨fn,c,h1,h2,h3⟩,fun w Z args bs _ _ hz _ hbs hrep=>?_⟩;obtain⟨v,vs',c1,d1,rfl,rfl,⟨cs,e1,us,us2,e2,how0,hl0,e3⟩,rfl,rfl⟩:=hrep;have how:w.ownsRow 0 E 1 us xs.length us2:=how0;have hl:RepL (Ty.Rep w Z (.int .i64)) xs us2:=hl0;clear how0 hl0;have e1:cs=[v]:=e1;subst e1;cases e2;have hus:us2=xs.map (Value.int .i64):=((kO (t:=.int .i64) rfl).1 hl).trans (henc xs);subst hus;have hrl:∀zs:List Int,RepL (Ty.Rep w Z (.int .i64)) zs (zs.map (Value.int .i64)):=fun zs=>(kO (t:=.int .i64) rfl).2 (henc zs).symm
 rcases how with⟨hlen,⟨rfl,hx⟩ | ⟨g,cap,cur,rfl,_,hb,hnc,hcm,hsz,htk⟩⟩
 ·have hx:xs=[]:=aF2 hx;subst hx;refine Calls.mono (hn w) fun e w' he=>?_
  obtain⟨rfl,rfl⟩:=he;have e3:c1=[]:=e3;subst e3;refine⟨_,rfl,Z,[],[],Frm.refl _ _,fun b hb=>⟨hz b hb,fun _=>.inl hb⟩,?_,?_,by simp,by simp,fun q=>by cases q⟩
  ·unfold dV;rw[if_neg (by simp[oK])];exact⟨[],rfl,rfl,rfl⟩
  ·refine⟨_,_,[],[],rfl,by simp,⟨[.slice none 0 0],rfl,.slice none 0 0,[],rfl,?_,?_,rfl⟩,rfl,rfl⟩
   ·show w'.ownsRow 0 E 1 (.slice none 0 0) (List.mergeSort ([]:List Int) fun x y=>decide (x≤y)).length [];rw[List.mergeSort_nil];exact World.ownsRow_nil _ _ _ _
   ·show RepL _ (List.mergeSort ([]:List Int) fun x y=>decide (x≤y)) [];rw[List.mergeSort_nil];rfl
 ·have hg:g<w.heap.size:=(eG2.1 hb).1;have e3:c1=[g]:=e3;subst e3;have hlim:xs.length<4611686018427387904:=Nat.lt_of_le_of_lt hlim0 (by decide);have hH0:Holds id w g 0 (xs.map (Value.int .i64)).toArray:=oS hb (by simpa[Ty.sz]using htk);have hH:Holds (Value.int .i64) w g 0 xs.toArray:=by
   intro j hj;have hj':j<xs.length:=by simpa using hj
   have h:=hH0 j (by simpa using hj');rw[getElem!_pos _ j (by simpa using hj')]at h;rw[getElem!_pos _ j hj];simpa using h
  refine Calls.mono (hs w g cap xs hH hg hlim) fun e w' he=>?_
  obtain⟨rfl,q,os,rfl⟩:=he;rw[hput];generalize hL:(xs.mergeSort fun x y=>decide (x≤y))=L;have hLl:L.length=xs.length:=by rw[←hL];simp
  have hfrm:Frm (· ∈ [g]++([]:List Nat)) w (grow (putRow id (Sort.ahead w q) g 0 (L.toArray.map (Value.int .i64))) os):=yB1 w g _ q os (by simp);refine⟨_,rfl,Z,[],[g],hfrm,fun b hb=>⟨uF2 (hz b hb) hfrm.size,fun _=>.inl hb⟩,?_,?_,by simp,?_,fun q=>by cases q⟩
  ·unfold dV;rw[if_neg (by simp[oK])];exact⟨[],rfl,rfl,rfl⟩
  ·refine⟨_,_,[g],[],rfl,rfl,⟨_,rfl,.slice (some ⟨g,0,none⟩) xs.length cap,L.map (Value.int .i64),rfl,?_,?_,rfl⟩,rfl,rfl⟩
   ·show World.ownsRow _ 0 E 1 _ L.length _;rw[hLl,show L.map (Value.int .i64)=(L.toArray.map (Value.int .i64)).toList by simp];exact aC1 hb hnc hcm hsz (by simp[hLl]) q os
   ·show RepL _ L _;exact(kO (t:=.int .i64) rfl).2 (henc L).symm
  ·intro b hb;have hb:b=g:=by simpa using hb
   subst hb;exact⟨(hbs b (by simp)).1,fun _=>by simp⟩
end
end Go.GV
