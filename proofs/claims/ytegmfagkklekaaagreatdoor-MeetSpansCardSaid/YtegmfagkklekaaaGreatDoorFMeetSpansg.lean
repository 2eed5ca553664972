/-
Part of the words that MeetSpans is proved with: no statement of its own, no conditions.
-/
import Derived.Test.YtegmfagkklekaaaGreatDoorFMeetSpansf
import Derived.ProofKit
import Derived.OpenShut
import Derived.Carry
import Derived.Deep.DeepHandedRow
import Derived.Lib.LaidTab
set_option linter.unusedVariables false
set_option linter.unusedSimpArgs false
namespace Go.GV
def vW1 (k:IntKind) (n:Int):Prop:=k.min≤n∧n≤k.max
def cD2 (s:ByteArray):Prop:=s.size≤9223372036854775807
def yD2 {α:Type} (R:α→Prop) (xs:List α):Prop:=xs.length≤9223372036854775807 ∧ ∀x∈xs,R x
mutual
def Ty.Ok :(t:Ty)→t.D→Prop
 | .int k,x=>vW1 k x
 | .bool,_=>True
 | .str,x=>cD2 x
 | .err,_=>True
 | .any _ t,x=>t.Ok x
 | .st fs,x=>fs.Ok x
 | .row _ t,xs=>yD2 (fun x=>t.Ok x) xs
def Tys.Ok :(ts:Tys)→ts.D→Prop
 | .nil,_=>True
 | .cons t ts,x=>t.Ok x.1∧ts.Ok x.2
end
mutual
def Ty.noErr :Ty→Bool
 | .err=>false
 | .any _ _=>false
 | .st fs=>fs.noErr
 | .row _ t=>t.noErr
 | .int _=>true
 | .bool=>true
 | .str=>true
def Tys.noErr :Tys→Bool
 | .nil=>true
 | .cons t ts=>t.noErr&&ts.noErr
end
section
variable {P : Program} {w : World} {H : Type} {enc : TypeId × Value → H}
theorem wH1 {α β:Type} (f:α→Option β):∀(l:List α) (ys:List β),l.mapM f=some ys→ys.length=l.length ∧ ∀(i:Nat) x,l[i]?=some x → ∃y,ys[i]?=some y∧f x=some y
 | [],ys,h=>by simp at h;subst h;exact⟨rfl,fun i x hx=>by simp at hx⟩
 | a::l,ys,h=>by
  simp only[List.mapM_cons,bind,lF2,pure,Option.some.injEq]at h;obtain⟨y,h1,zs,h2,rfl⟩:=h;obtain⟨h3,h4⟩:=wH1 f l zs h2;refine⟨by simp[h3],fun i x hx=>?_⟩
  cases i with
  | zero=>simp at hx;subst hx;exact⟨y,by simp,h1⟩
  | succ i=>simp at hx ⊢;exact h4 i x hx
theorem jM1 {base:Nat} {a:Addr} {n:Nat} {cs:List Value} (h:w.cells? base a n=some cs):cs.length=n ∧ ∀i u,cs[i]?=some u→w.cell? (a.add i)=some u:=by
 unfold World.cells? at h;split at h
 ·obtain⟨h1,h2⟩:=wH1 _ _ _ h;refine⟨by simpa using h1,fun i u hu=>?_⟩;have hi:i<n:=by have:=(sF2.1 hu).1;simpa[h1]using this
  obtain⟨y,h3,h4⟩:=h2 i i (by simp[hi]);rw[hu]at h3;cases h3;exact h4
 ·cases h
theorem tR {t:Ty} {T:TypeId} (h:tyOK P t T=true):P.cellsOf T=t.sz:=by obtain⟨i,hi,hz⟩:=aG h;simp[Program.cellsOf,hi,(aF (w:=default) (Z:=fun _=>False) (fun _=>undef) hz).1]
theorem uZ {a:Addr} {u:Value} (h:w.cell? a=some u):a.block<w.heap.size:=by
 unfold World.cell? at h;rcases Nat.lt_or_ge a.block w.heap.size with h1 | h1
 ·exact h1
 ·rw[Array.getElem?_eq_none h1]at h;simp at h
def allZ (w:World):Nat→Prop:=fun b=>b<w.heap.size
theorem bC1 {t:Ty} {e:TypeId} (f:List Value→Option (DataW H×List MemPlace)) (hf:∀cs d p,f cs=some (d,p) → ∃x:t.D,t.Rep w (allZ w) x cs∧t.Ok x) (g:Nat→Addr):
  ∀(n m:Nat) (ys:List (DataW H×List MemPlace)),(List.range' m n).mapM (fun i=>(w.cells? 0 (g i) t.sz).bind f)=some ys →
   ∃(xs:List t.D) (news:List Value),xs.length=n∧RepL (t.Rep w (allZ w)) xs news∧(∀x∈xs,t.Ok x) ∧ ∀i j u,i<n→j<t.sz→news[i*t.sz+j]?=some u→w.cell? ((g (m+i)).add j)=some u
 | 0,m,ys,h=>⟨[],[],rfl,rfl,by simp,fun i j u hi=>by omega⟩
 | n+1,m,ys,h=>by
  simp only[cI2,List.mapM_cons,bind,lF2,pure,Option.some.injEq]at h;obtain⟨y,⟨cs,h1,h2⟩,zs,h3,rfl⟩:=h;obtain⟨x,hx1,hx2⟩:=hf cs y.1 y.2 h2;obtain⟨h4,h5⟩:=jM1 h1;obtain⟨xs,news,h6,h7,h8,h9⟩:=bC1 (e:=e) f hf g n (m+1) zs h3;refine⟨x::xs,cs++news,by simp[h6],⟨cs,news,rfl,hx1,h7⟩,?_,?_⟩
  ·intro y hy;rcases pE2.1 hy with rfl | hy
   ·exact hx2
   ·exact h8 y hy
  ·intro i j u hi hj hu
   cases i with
   | zero=>
    rw[Nat.zero_mul,xG2,tF2 (by omega)]at hu;exact h5 j u hu
   | succ i=>
    rw[yF2 (by rw[h4,nG2];omega),h4,show(i+1)*t.sz+j-t.sz=i*t.sz+j by rw[nG2];omega]at hu;have:=h9 i j u (by omega) hj hu;rw[show m+(i+1)=m+1+i by omega];exact this
mutual
theorem tZ {spare:Nat→Bool}:∀(t:Ty) (fuel:Nat) (T:TypeId) (cs:List Value) (d:DataW H) (p:List MemPlace),t.noErr=true→tyOK P t T=true→DataW.trod enc P w 0 spare true fuel T cs=some (d,p) → ∃x:t.D,t.Rep w (allZ w) x cs∧t.Ok x
 | t,0,T,cs,d,p,_,_,h=>by simp[DataW.trod]at h
 | .int k,fuel+1,T,cs,d,p,_,hT,h=>by
  simp only[DataW.trod,bJ hT]at h;split at h
  all_goals first | (rename_i e1;cases e1;done) | (cases h;done) | skip
  rename_i k1 k' n e1;cases e1;split at h
  ·rename_i hk;obtain⟨rfl,hw⟩:=hk;simp only[Lit.wf,iE2,decide_eq_true_eq]at hw;exact⟨n,rfl,hw⟩
  ·cases h
 | .bool,fuel+1,T,cs,d,p,_,hT,h=>by
  simp only[DataW.trod,dK hT]at h;split at h
  ·exact⟨_,rfl,trivial⟩
  all_goals first | (rename_i e1;cases e1;done) | (cases h;done)
 | .str,fuel+1,T,cs,d,p,_,hT,h=>by
  simp only[DataW.trod,nK hT]at h;split at h
  all_goals first | (rename_i e1;cases e1;done) | (cases h;done) | skip
  split at h
  ·rename_i hs;exact⟨_,rfl,hs⟩
  ·cases h
 | .err,_,_,_,_,_,hne,_,_=>by cases hne
 | .any _ _,_,_,_,_,_,hne,_,_=>by cases hne
 | .st fs,fuel+1,T,cs,d,p,hne,hT,h=>by
  obtain⟨l,hl,hfl⟩:=wM hT;have hsz:=tR hT;simp only[DataW.trod,hl]at h;split at h
  all_goals first | (rename_i e1;cases e1;done) | (cases h;done) | skip
  rename_i hlen;rw[Option.map_eq_some_iff]at h;obtain⟨xs,h1,_⟩:=h;exact uB1 fs fuel l.toList 0 cs xs hne hfl h1 (by simpa[hsz,Ty.sz]using hlen)
 | .row E t,fuel+1,T,cs,d,p,hne,hT,h=>by
  obtain⟨hu,hpos,he⟩:=gF hT;have hsz:=tR he;simp only[DataW.trod,hu]at h;split at h
  all_goals first | (rename_i e1;cases e1;done) | (cases h;exact⟨([]:List t.D),⟨none,0,[],rfl,rE2 _,rfl,.inl ⟨rfl,fun _=>rfl⟩⟩,⟨kE2 _,fun _ hx=>by cases hx⟩⟩) | (cases h;done) | skip
  ·rename_i E' a len cap e1;cases e1;rw[hsz]at h;split at h
   ·rename_i hc;obtain⟨_,hlc,hcm⟩:=hc;rw[lF2]at h;obtain⟨elems,h1,_⟩:=h;rw[List.range_eq_range']at h1;obtain⟨xs,news,h2,h3,h4,h5⟩:=bC1 (e:=E) _ (fun cs d p h=>tZ t fuel E cs d p hne he h) (fun i=>a.add (i*t.sz)) len 0 elems h1;refine⟨xs,⟨some a,cap,news,by rw[h2],by rw[h2];exact hlc,h3,?_⟩,⟨by rw[h2];exact sG2 hlc hcm,h4⟩⟩;have hnl:=RepL.length (fun _ _ h=>Ty.Rep.length h) h3;by_cases hx:xs=[]
    ·exact .inl ⟨hx,fun e=>by cases e⟩
    ·have hall:∀j u,news[j]?=some u→w.cell? (a.add j)=some u:=by
      intro j u hj;have hjl:=(sF2.1 hj).1;rw[hnl,h2]at hjl;have hq:j/t.sz<len:=Nat.div_lt_of_lt_mul (by rw[Nat.mul_comm];exact hjl);have hr:j%t.sz<t.sz:=Nat.mod_lt _ hpos;have hj2:(j/t.sz)*t.sz+j%t.sz=j:=by rw[Nat.mul_comm];exact Nat.div_add_mod j t.sz
      have:=h5 (j/t.sz) (j%t.sz) u hq hr (by rw[hj2];exact hj);rw[xG2,xU,hj2]at this;exact this
     refine .inr ⟨a,rfl,?_,hall⟩;have hpos2:0<news.length:=by rw[hnl];exact Nat.mul_pos (pH2.2 hx) hpos
     have:=uZ (hall 0 news[0] (sE2 hpos2));simpa[allZ]using this
   ·cases h
theorem uB1 {spare:Nat→Bool}:∀(ts:Tys) (fuel:Nat) (l:List Field) (n:Nat) (cs:List Value) (xs:List (DataW H×List MemPlace)),ts.noErr=true→oJ P ts l n=true →
  l.mapM (fun f=>DataW.trod enc P w 0 spare true fuel f.type ((cs.drop f.offset).take (P.cellsOf f.type)))=some xs→cs.length=n+ts.sz → ∃x:ts.D,ts.Rep w (allZ w) x (cs.drop n)∧ts.Ok x
 | .nil,fuel,l,n,cs,xs,_,_,_,hlen=>⟨(),by simp only[Tys.sz]at hlen;exact yG2 (by omega),trivial⟩
 | .cons t ts,fuel,[],n,cs,xs,_,hf,_,_=>by simp[oJ]at hf
 | .cons t ts,fuel,f::l,n,cs,xs,hne,hf,h,hlen=>by simp only[oJ,iE2,beqt]at hf;obtain⟨⟨ho,ht⟩,hl⟩:=hf;simp only[Tys.noErr,iE2]at hne;simp only[List.mapM_cons,bind,lF2,pure,Option.some.injEq]at h;obtain⟨y,h1,zs,h2,rfl⟩:=h;have hsz:=tR ht;rw[hsz,ho]at h1;simp only[Tys.sz]at hlen;obtain⟨x,hx1,hx2⟩:=tZ t fuel f.type _ y.1 y.2 hne.1 ht h1;obtain⟨x',hx3,hx4⟩:=uB1 ts fuel l (n+t.sz) cs zs hne.2 hl h2 (by omega);refine⟨(x,x'),⟨_,_,?_,hx1,hx3⟩,⟨hx2,hx4⟩⟩;rw[←List.drop_drop];exact(hG2 _ _).symm
end
def tS1 (P:Program):Shs→List TypeId→Bool
 | .nil,[]=>true
 | .cons (.val t) l,T::ts=>tyOK P t T&&t.noErr&&tS1 P l ts
 | _,_=>false
theorem pU1 {base:Nat} {t:Ty} {T:TypeId} {v:Value} (hT:tyOK P t T=true) (hv:Value.okWide P w .any base T v):if t.isSt=true then ∃cs,v = .agg cs else v.cells.toList=[v]:=by
 have one:∀d,P.underlying T=some d→(∀cs,Cell.ok P w .any base T (.agg cs)→False)→(match d with | .struct _ | .array _ _ | .interface _=>false | _=>true)=true→v.cells.toList=[v]:=by
  intro d hd hno hk
  cases v with
  | agg cs=>
   exfalso;unfold Value.okWide Cell.okWide at hv;rw[hd]at hv;cases d <;> first | exact hno cs hv | cases hk
  | _=>rfl
 cases t with
 | int k=>exact one _ (bJ hT) (fun cs h=>by simp[Cell.ok,bJ hT]at h) rfl
 | bool=>exact one _ (dK hT) (fun cs h=>by simp[Cell.ok,dK hT]at h) rfl
 | str=>exact one _ (nK hT) (fun cs h=>by simp[Cell.ok,nK hT]at h) rfl
 | any U t=>cases hT
 | row E t=>exact one _ (gF hT).1 (fun cs h=>by simp[Cell.ok,(gF hT).1]at h) rfl
 | err=>
  obtain⟨ms,hm⟩:=dT hT
  cases v with
  | agg cs=>
   exfalso;unfold Value.okWide Cell.okWide at hv;rw[hm]at hv;simp[Cell.ok,hm]at hv
  | _=>rfl
 | st fs=>
  obtain⟨l,hl,_⟩:=wM hT;unfold Value.okWide at hv;rw[hl]at hv;obtain⟨cs,h,_⟩:=hv;exact⟨cs,h⟩
theorem pD1 {base:Nat} {spare:Nat→Bool}:∀(s:Shs) (ts:List TypeId) (vs:List Value) (ds:List (DataW H)) (p:List MemPlace),tS1 P s ts=true→(∀(j:Nat) t v,ts[j]?=some t→vs[j]?=some v→Value.okWide P w .any base t v) →
  DataW.TrodAll enc P w 0 spare true ts vs ds p → ∃x:s.T.D,s.RepA w (allZ w) x vs []∧s.T.Ok x∧ds.length=ts.length
 | .nil,[],vs,ds,p,_,_,h=>by cases vs <;> cases ds <;> first | exact⟨(),⟨rfl,rfl⟩,trivial,rfl⟩ | exact h.elim
 | .nil,_::_,vs,ds,p,h,_,_=>by cases h
 | .cons (.val t) l,[],vs,ds,p,h,_,_=>by cases h
 | .cons (.val t) l,T::ts,vs,ds,p,hp,hv,h=>by
  simp only[tS1,iE2]at hp;obtain⟨⟨h1,h2⟩,h3⟩:=hp
  cases vs with
  | nil=>exact h.elim
  | cons v vs=>
   cases ds with
   | nil=>exact h.elim
   | cons d ds=>
    obtain⟨q,r,⟨fuel,hf⟩,h4,rfl⟩:=h;obtain⟨x,hx1,hx2⟩:=tZ t fuel T _ d q h2 h1 hf;obtain⟨y,hy1,hy2,hy3⟩:=pD1 l ts vs ds r h3 (fun j t v ht hv'=>hv (j+1) t v (by simpa using ht) (by simpa using hv')) h4;have hag:=pU1 h1 (hv 0 T v rfl rfl);refine⟨(x,y),⟨v,vs,[],[],rfl,rfl,⟨v.cells.toList,?_,⟨hx1,rfl⟩⟩,hy1⟩,⟨hx2,hy2⟩,by simp[hy3]⟩
    cases t with
    | st fs=>simp only[Ty.isSt,if_true]at hag;obtain⟨cs,rfl⟩:=hag;simp[Sh.agg,Value.cells]
    | int k=>simpa[Sh.agg,Ty.isSt]using hag
    | bool=>simpa[Sh.agg,Ty.isSt]using hag
    | str=>simpa[Sh.agg,Ty.isSt]using hag
    | err=>simpa[Sh.agg,Ty.isSt]using hag
    | row E t=>simpa[Sh.agg,Ty.isSt]using hag
    | any U t=>simpa[Sh.agg,Ty.isSt]using hag
 | .cons (.own _ _) _,_,_,_,_,h,_,_=>by cases h
 | .cons (.mv _ _) _,_,_,_,_,h,_,_=>by cases h
 | .cons (.box _ _) _,_,_,_,_,h,_,_=>by cases h
 | .cons (.fn _ _) _,_,_,_,_,h,_,_=>by cases h
 | .cons (.rcd _) _,_,_,_,_,h,_,_=>by cases h
end
mutual
/-- A plain datum by its cells. -/
def gL1 {H:Type}:DataW H→List Value
 | .lit (.int k n)=>[.int k n]
 | .lit (.bool b)=>[.bool b]
 | .lit (.string s)=>[.string ⟨s.toArray⟩]
 | .agg l=>bW1 l
 | _=>[]
def bW1 {H:Type}:List (DataW H)→List Value
 | []=>[]
 | d::l=>gL1 d++bW1 l
end
section
variable {P : Program} {w : World} {H : Type} {enc : TypeId × Value → H}
def lawD (fid:FuncId) (par:Shs) (n:Nat) (rv:List ResultVar) (body:Option Code) (an:Ann):FnD:={ fid:=fid,par:=par,res:=.cons (.val .bool) .nil,n:=n,rv:=rv,body:=body,an:=an }
theorem dR1 {fid:FuncId} {par:Shs} {n:Nat} {rv:List ResultVar} {body:Option Code} {an:Ann} {x:par.T.D} {y:par.inout.T.D} {GB:Nat→Prop} {G:World→Prop} (h:FnB P GB G (lawD fid par n rv body an) x (true,y)) (hg:G w) (hgb:∀b,GB b→b<w.heap.size) {args:List Value}
  (hrep:par.RepA w (allZ w) x args []):Calls P fid args.toArray w fun e w'=>e = .returned (.bool true)∧Go.RowKit.Below w.heap.size w w':=by
 refine Calls.mono (h.2 w (allZ w) args [] hg (fun b hb=>⟨hgb b hb,by simp⟩) (fun b hb=>hb) List.nodup_nil (fun b hb=>by cases hb) hrep) fun e w' he=>?_
 obtain⟨v,rfl,Z',bsR,bsI,hfrm,_,⟨vs,hv,hR⟩,_⟩:=he;obtain⟨v1,vs',c,d,e1,_,⟨cs,h1,h2,_⟩,h3⟩:=hR;obtain⟨e2,_⟩:=h3;subst e2 e1;simp only[Sh.agg,pF2,if_false]at h1;have h4:cs=[Value.bool true]:=h2;rw[h4]at h1;cases h1;refine⟨by rw[hv];rfl,⟨hfrm.os,hfrm.tape,hfrm.output,hfrm.size,fun k hk=>hfrm.block k hk (by simp)⟩⟩
theorem lE1 {spare:Nat→Bool} (hl:laidOutB P=true) {w':World} (hb:Go.RowKit.Below w.heap.size w w'):∀{ts:List TypeId} {vs:List Value} {ds:List (DataW H)} {p:List MemPlace},(ts.all fun T=>P.readableRec T&&Nat.blt T P.types.size)=true →
  DataW.TrodAll enc P w 0 (fun _=>true) true ts vs ds p→(∀x∈p,x.block<w.heap.size)→DataW.TrodAll enc P w' 0 (fun b=>decide (b<w.heap.size)) true ts vs ds p
 | [],[],[],_,_,h,_=>h
 | T::ts,v::vs,d::ds,_,ht,⟨q,r,h1,h2,e⟩,hlt=>by simp only[kH2,iE2]at ht;subst e;exact⟨q,r,Go.RowKit.Below.trod hl ht.1.1 (rF2 ht.1.2) h1 hb fun x hx=>hlt x (bF2 _ hx),lE1 (spare:=spare) hl hb ht.2 h2 fun x hx=>hlt x (tE2 _ hx),rfl⟩
 | [],_::_,_,_,_,h,_=>h.elim
 | [],[],_::_,_,_,h,_=>h.elim
 | _::_,[],_,_,_,h,_=>h.elim
 | _::_,_::_,[],_,_,h,_=>h.elim
theorem jE1 {fid:FuncId} {par:Shs} {n:Nat} {rv:List ResultVar} {body:Option Code} {an:Ann} {fn:Func} {s:ChangeSpec} {T:TypeId} (hl:laidOutB P=true) (hread:(fn.params.toList.all fun T=>P.readableRec T&&Nat.blt T P.types.size)=true)
  (hres:fn.resultTypes.toList=[T]) (hsz:fn.resultTypes.size=1) (hT:P.underlying T=some .bool) (hvars:s.vars=[]) (hpar:tS1 P par fn.params.toList=true)
  (hspec:∀ds:List (DataW H),ds.length=fn.params.toList.length→s.fn H (ds++[])={ results:=[.lit (.bool true)],args:=ds })
  {GB:Nat→Prop} {G:World→Prop} (hlaw:∀x,par.T.Ok x → ∃y,FnB P GB G (lawD fid par n rv body an) x (true,y))
  (W:World) (hG:G W) (hGB:∀b,GB b→b<W.heap.size) (base:Nat) (args:Array Value) (ds gs:List (DataW H)) (before:List MemPlace) (hval:∀(j:Nat) t v,fn.params[j]?=some t→args[j]?=some v→Value.okWide P W .any base t v)
  (hW:DataW.Whole enc P fn.params.toList s.vars false W args.toList ds gs before):Calls P fid args W fun e W'=>∃v,e = .returned v∧s.post enc P fn false true false false W args v W':=by
 have hW':=hW;have hlt:=hW.lt;obtain⟨p,q,hA,hV,rfl,hfz,hnd⟩:=hW;rw[hvars]at hV;have hg:gs=[]∧q=[]:=by cases gs <;> first | exact⟨rfl,hV⟩ | exact hV.elim
 obtain⟨rfl,rfl⟩:=hg;obtain⟨x,hx1,hx2,hx3⟩:=pD1 par fn.params.toList args.toList ds p hpar (fun j t v ht hv=>hval j t v (by simpa using ht) (by simpa using hv)) hA;obtain⟨y,hy⟩:=hlaw x hx2;have hc:=dR1 hy hG hGB hx1;rw[dG2]at hc;refine Calls.mono hc fun e W' he=>?_
 obtain⟨rfl,hbel⟩:=he;have hsp:=hspec ds hx3;refine⟨_,rfl,ds,[],_,[],p,[],hW',?_,?_,?_,Go.RowKit.Below.frame hbel _,fun h=>by cases h⟩
 ·rw[hres,hsp,hsz];exact Go.ChangeShapes.trodAll_mk1 (show DataW.Trod enc P W' _ _ _ T (.bool true) (.lit (.bool true)) []from⟨1,by simp[DataW.trod,hT,Value.cells]⟩)
 ·rw[hsp];exact lE1 (spare:=fun _=>true) hl hbel hread hA fun x hx=>hlt x (by simpa using hx)
 ·rw[hsp,hvars];rfl
end
end Go.GV
