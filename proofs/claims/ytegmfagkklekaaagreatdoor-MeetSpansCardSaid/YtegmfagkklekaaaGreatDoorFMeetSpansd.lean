/-
Part of the words that MeetSpans is proved with: no statement of its own, no conditions.
-/
import Derived.Test.YtegmfagkklekaaaGreatDoorFMeetSpansc
set_option linter.unusedVariables false
set_option linter.unusedSimpArgs false
namespace Go.GV
section
variable {P : Program} {E : Env} {w0 w w' : World} {M Z0 Z Z' : Nat → Prop} {γ γ' : Nat → Value} {ob : List (Nat × Ob)}
theorem mU :∀{s:Shs} {z:s.inout.T.D} {vs:List Value} {bs:List Nat},s.inout.RepA w Z z vs bs→s.inout.Rep w Z z vs bs
 | .nil,_,_,_,h=>h
 | .cons (.val _) l,_,_,_,h=>mU (s:=l) h
 | .cons (.mv _ _) l,_,_,_,h=>mU (s:=l) h
 | .cons (.rcd _) l,_,_,_,h=>mU (s:=l) h
 | .cons (.own e t) l,_,_,_,⟨v,vs',c,d,e1,e2,⟨cs,h1,h2⟩,h3⟩=>⟨[v],vs',c,d,e1,e2,by simp only[Sh.agg,pF2,if_false]at h1;rw[←h1];exact h2,mU (s:=l) h3⟩
 | .cons (.box T b) l,_,_,_,⟨v,vs',c,d,e1,e2,⟨cs,h1,h2⟩,h3⟩=>⟨[v],vs',c,d,e1,e2,by simp only[Sh.agg,pF2,if_false]at h1;rw[←h1];exact h2,mU (s:=l) h3⟩
 | .cons (.fn f b) l,_,_,_,⟨v,vs',c,d,e1,e2,⟨cs,h1,h2⟩,h3⟩=>⟨[v],vs',c,d,e1,e2,by simp only[Sh.agg,pF2,if_false]at h1;rw[←h1];exact h2,mU (s:=l) h3⟩
theorem aW1 :∀{s:Shs} {vs us:List Value},s.TopA vs us→s.inout.Top (s.io vs) (s.keep us)
 | .nil,_,_,h=>by obtain⟨h1,h2⟩:=h;subst h1 h2;rfl
 | .cons s l,_,_,⟨v,vs',c,d,cs,e1,e2,h1,h2,h3⟩=>by
  subst e1 e2;have ih:=aW1 h3;have hl:=rA1 h2
  cases s with
  | val t=>cases h2;simpa[Shs.io,Shs.keep,Shs.inout,Sh.cnt]using ih
  | mv e t=>
   simp only[Shs.io,Shs.keep,Shs.inout,dF2,←hl,wG2];exact ih
  | rcd b=>
   simp only[Shs.io,Shs.keep,Shs.inout,dF2,←hl,wG2];exact ih
  | own e t=>
   simp only[Sh.agg,pF2,if_false]at h1;subst h1;refine⟨[v],l.io vs',c,l.keep d,rfl,?_,rfl,h2,ih⟩;simp only[Shs.keep,←hl,cH2,wG2]
  | box T b=>
   simp only[Sh.agg,pF2,if_false]at h1;subst h1;refine⟨[v],l.io vs',c,l.keep d,rfl,?_,rfl,h2,ih⟩;simp only[Shs.keep,←hl,cH2,wG2]
  | fn f b=>
   simp only[Sh.agg,pF2,if_false]at h1;subst h1;refine⟨[v],l.io vs',c,l.keep d,rfl,?_,rfl,h2,ih⟩;simp only[Shs.keep,←hl,cH2,wG2]
theorem rI1 {α β:Type} (f:α→β):∀(s:Shs) (ns:List α),(s.keep ns).map f=s.keep (ns.map f)
 | .nil,_=>rfl
 | .cons s l,ns=>by simp only[Shs.keep,mF2,rI1 f l,←List.map_drop];cases s <;> simp[List.map_take]
theorem tA1 {α:Type}:∀(s:Shs) (ns:List α) (n:α),n∈s.keep ns→n∈ns
 | .nil,_,n,h=>by simp[Shs.keep]at h
 | .cons s l,ns,n,h=>by
  simp only[Shs.keep,xE2]at h;rcases h with h | h
  ·cases s <;> first | (simp at h;done) | exact List.mem_of_mem_take h
  ·exact List.mem_of_mem_drop (tA1 l _ n h)
theorem kX :∀{s:Shs} {ns:List Nat},All2 (KOK ob) s.kinds ns→All2 (KOK ob) s.inout.kinds (s.keep ns)
 | .nil,_,_=>trivial
 | .cons s l,ns,h=>by
  simp only[Shs.kinds]at h;obtain⟨a,b,e,h1,h2⟩:=All2.split h;subst e;have hl:=All2.length h1;rw[uP]at hl;have ih:=kX h2
  cases s with
  | val t=>simpa[Shs.keep,Shs.inout,Sh.cnt]using(show All2 (KOK ob) l.inout.kinds (l.keep ((a++b).drop 0)) by
    have:a=[]:=aF2 (by rw[←hl];rfl);subst this
    simpa using ih)
  | mv e t=>simp only[Shs.keep,Shs.inout,dF2,hl,wG2];exact ih
  | rcd b=>simp only[Shs.keep,Shs.inout,dF2,hl,wG2];exact ih
  | own e t=>simp only[Shs.keep,Shs.inout,Shs.kinds,hl,cH2,wG2];exact All2.append h1 ih
  | box T b=>simp only[Shs.keep,Shs.inout,Shs.kinds,hl,cH2,wG2];exact All2.append h1 ih
  | fn f b=>simp only[Shs.keep,Shs.inout,Shs.kinds,hl,cH2,wG2];exact All2.append h1 ih
mutual
theorem wP1 :∀(s:Sh),∀b∈s.nest true,b=true
 | .val _,b,h=>by simp[Sh.nest]at h
 | .own _ _,b,h=>by simpa[Sh.nest]using h
 | .mv _ _,b,h=>by simpa[Sh.nest]using h
 | .box _ l,b,h=>by
  simp only[Sh.nest,pE2]at h;rcases h with h | h
  ·exact h
  ·exact eM l b h
 | .fn _ l,b,h=>eM l b h
 | .rcd l,b,h=>eM l b h
theorem eM :∀(s:Shs),∀b∈s.nest true,b=true
 | .nil,b,h=>by simp[Shs.nest]at h
 | .cons s l,b,h=>by
  simp only[Shs.nest,xE2]at h;rcases h with h | h
  ·exact wP1 s b h
  ·exact eM l b h
end
theorem rU1 (s:Shs) (i:Nat) (b:Bool) (h:(s.nest true)[i]?=some b):b=true:=eM s b (List.mem_of_getElem? h)
mutual
theorem aB2 :∀{s:Sh} {vs us us':List Value},s.Top vs us→s.Top vs us' → ∀(i:Nat),(s.nest false)[i]?=some false→us[i]?=us'[i]?
 | .val _,_,_,_,h,h',i,_=>by cases h;cases h';rfl
 | .own _ _,_,_,_,h,h',i,_=>by rw[h.1,h'.1]
 | .mv _ _,_,_,_,h,h',i,_=>by rw[h.1,h'.1]
 | .box _ l,_,_,_,⟨v,us1,e1,e2,h1⟩,⟨v',us1',e1',e2',h1'⟩,i,hi=>by
  rw[e1]at e1';cases e1'
  cases i with
  | zero=>rw[e2,e2'];rfl
  | succ i=>
   simp only[Sh.nest,qG2]at hi;cases rU1 l i false hi
 | .fn _ l,_,_,_,⟨v,e1,h1⟩,⟨v',e1',h1'⟩,i,hi=>by rw[e1]at e1';cases e1';exact eV (s:=l) h1 h1' i hi
 | .rcd l,_,_,_,h1,h1',i,hi=>eV (s:=l) h1 h1' i hi
theorem eV :∀{s:Shs} {vs us us':List Value},s.Top vs us→s.Top vs us' → ∀(i:Nat),(s.nest false)[i]?=some false→us[i]?=us'[i]?
 | .nil,_,_,_,h,h',i,_=>by cases h;cases h';rfl
 | .cons s l,_,_,_,⟨a,b,c,d,e1,e2,h1,h2,h3⟩,⟨a',b',c',d',e1',e2',h1',h2',h3'⟩,i,hi=>by
  rw[e1]at e1';obtain⟨ea,eb⟩:=List.append_inj e1' (by rw[h1,h1']);subst ea eb e2 e2';have hc:=rA1 h2;have hc':=rA1 h2';simp only[Shs.nest]at hi;by_cases hlt:i<s.cnt
  ·rw[tF2 (by rw[jT];exact hlt)]at hi;rw[tF2 (by rw[hc];exact hlt),tF2 (by rw[hc'];exact hlt)];exact aB2 h2 h2' i hi
  ·rw[yF2 (by rw[jT];omega),jT]at hi;rw[yF2 (by rw[hc];omega),yF2 (by rw[hc'];omega),hc,hc'];exact eV h3 h3' _ hi
end
mutual
theorem lN :∀(s:Sh),s.bxs.length=s.cnt
 | .val _=>rfl
 | .own _ _=>rfl
 | .mv _ _=>rfl
 | .box _ l=>by simp only[Sh.bxs,iF2,iL l,Sh.cnt]
 | .fn _ l=>iL l
 | .rcd l=>iL l
theorem iL :∀(s:Shs),s.bxs.length=s.cnt
 | .nil=>rfl
 | .cons s l=>by simp only[Shs.bxs,jE2,lN s,iL l,Shs.cnt]
end
theorem fI1 :∀{a b:List Bool},a.length=b.length→(nstL a b).length=a.length
 | [],[],_=>rfl
 | _::a,_::b,h=>by simp only[nstL,iF2,fI1 (a:=a) (b:=b) (by simpa using h)]
 | [],_::_,h=>by simp at h
 | _::_,[],h=>by simp at h
theorem vH1 :∀{a b:List Bool} {i:Nat},(nstL a b)[i]?=some false→b[i]?=some false→a[i]?=some false
 | n::a,c::b,0,h,hb=>by simp only[nstL,bI2,Option.some.injEq]at h hb ⊢;subst hb;simpa using h
 | n::a,c::b,i+1,h,hb=>by simp only[nstL,qG2]at h hb ⊢;exact vH1 h hb
 | [],_,_,h,_=>by simp[nstL]at h
 | _::_,[],_,h,_=>by simp[nstL]at h
theorem vO1 {D:FnD}:D.nst.length=D.par.inout.cnt:=by
 unfold FnD.nst;split
 ·rw[fI1 (by rw[tK,iL]),tK]
 ·exact tK _ _
abbrev ptrV (g:Nat):Value:=.pointer (some ⟨g,0,none⟩)
mutual
def Sh.Bx (w:World):Sh→List Value→List Nat→Prop
 | .val _,_,bs=>bs=[]
 | .own _ _,_,bs=>bs=[]
 | .mv _ _,_,bs=>bs=[]
 | .box T sh,cs,bs=>∃g cur bs',cs=[ptrV g]∧w.heap[g]?=some (.cells cur T (0,0))∧sh.Bx w cur.toList bs'∧bs=g::bs'
 | .fn f sh,cs,bs=>∃ps:List Value,cs=[Wv f ps]∧okW f ps∧sh.Bx w ps bs
 | .rcd sh,cs,bs=>sh.Bx w cs bs
def Shs.Bx (w:World):Shs→List Value→List Nat→Prop
 | .nil,_,bs=>bs=[]
 | .cons s l,cs,bs=>∃a b c d,cs=a++b∧bs=c++d∧a.length=s.w∧s.Bx w a c∧l.Bx w b d
end
def Shs.BxA (w:World):Shs→List Value→List Nat→Prop
 | .nil,_,bs=>bs=[]
 | .cons s l,vs,bs=>∃v vs' c d cs,vs=v::vs'∧bs=c++d∧(if s.agg=true then v = .agg (List.toArray cs)else cs=[v])∧s.Bx w cs c∧l.BxA w vs' d
mutual
theorem sC2 :∀{s:Sh} {cs:List Value} {b b':List Nat},s.Bx w cs b→s.Bx w cs b'→b=b'
 | .val _,_,_,_,h,h'=>by rw[h,h']
 | .own _ _,_,_,_,h,h'=>by rw[h,h']
 | .mv _ _,_,_,_,h,h'=>by rw[h,h']
 | .box _ sh,_,_,_,⟨g,cur,bs,e1,h1,h2,e2⟩,⟨g',cur',bs',e1',h1',h2',e2'⟩=>by rw[e1]at e1';simp only[List.cons.injEq,Value.pointer.injEq,Option.some.injEq,Addr.mk.injEq,and_true]at e1';subst e1';rw[h1]at h1';simp only[Option.some.injEq,Obj.cells.injEq,and_true]at h1';obtain⟨rfl,_⟩:=h1';rw[e2,e2',jX h2 h2']
 | .fn _ sh,_,_,_,⟨ps,e1,hk,h⟩,⟨ps',e1',hk',h'⟩=>by rw[e1]at e1';have:=congrArg aY1 (lH2 e1').1;rw[fB1 hk,fB1 hk']at this;subst this;exact jX h h'
 | .rcd sh,_,_,_,h,h'=>jX (s:=sh) h h'
theorem jX :∀{s:Shs} {cs:List Value} {b b':List Nat},s.Bx w cs b→s.Bx w cs b'→b=b'
 | .nil,_,_,_,h,h'=>by rw[h,h']
 | .cons s l,_,_,_,⟨a,b,c,d,e1,e2,h1,h2,h3⟩,⟨a',b',c',d',e1',e2',h1',h2',h3'⟩=>by rw[e1]at e1';obtain⟨ea,eb⟩:=List.append_inj e1' (by rw[h1,h1']);subst ea eb;rw[e2,e2',sC2 h2 h2',jX h3 h3']
end
theorem jJ {α:Type}:∀{k:List Bool} {l:List α} {k':List Bool} {l':List α},k.length=l.length→aH (k++k') (l++l')=aH k l++aH k' l'
 | [],[],_,_,_=>rfl
 | true::k,a::l,k',l',h=>by simp only[fH2,aH,jJ (k:=k) (l:=l) (by simpa using h)]
 | false::k,a::l,k',l',h=>by simp only[fH2,aH,jJ (k:=k) (l:=l) (by simpa using h)]
 | [],_::_,_,_,h=>by simp at h
 | _::_,[],_,_,h=>by simp at h
theorem lV {α:Type}:∀{k:List Bool} {l:List α} {x:α},x∈aH k l→x∈l
 | true::k,a::l,x,h=>by
  simp only[aH,pE2]at h;rcases h with h | h
  ·exact h ▸ nE2
  ·exact mE2 _ (lV h)
 | false::k,a::l,x,h=>by simp only[aH]at h;exact mE2 _ (lV h)
 | [],_,_,h=>by simp[aH]at h
 | _::_,[],_,h=>by simp[aH]at h
theorem aW {f g:Nat→Value}:∀{k:List Bool} {l m:List Nat} {i a b:Nat},l.length=k.length→m.length=k.length→(aH k l).map f=(aH k m).map g→k[i]?=some true→l[i]?=some a→m[i]?=some b→f a=g b
 | true::k,x::l,y::m,i,a,b,h1,h2,h,hk,hl,hm=>by
  simp only[aH,qF2,List.cons.injEq]at h
  cases i with
  | zero=>
   simp only[bI2,Option.some.injEq]at hl hm;rw[←hl,←hm];exact h.1
  | succ i=>exact aW (by simpa using h1) (by simpa using h2) h.2 (by simpa using hk) (by simpa using hl) (by simpa using hm)
 | false::k,x::l,y::m,i,a,b,h1,h2,h,hk,hl,hm=>by
  simp only[aH]at h
  cases i with
  | zero=>simp at hk
  | succ i=>exact aW (by simpa using h1) (by simpa using h2) h (by simpa using hk) (by simpa using hl) (by simpa using hm)
 | [],_,_,_,_,_,_,_,_,hk,_,_=>by simp at hk
 | _::_,[],_,_,_,_,h1,_,_,_,_,_=>by simp at h1
 | _::_,_::_,[],_,_,_,_,h2,_,_,_,_=>by simp at h2
theorem nN1 :∀{a b:List Nat},a.map ptrV=b.map ptrV→a=b
 | [],[],_=>rfl
 | x::a,y::b,h=>by simp only[qF2,List.cons.injEq,ptrV,Value.pointer.injEq,Option.some.injEq,Addr.mk.injEq,and_true]at h;rw[h.1,nN1 h.2]
 | [],_::_,h=>by simp at h
 | _::_,[],h=>by simp at h
mutual
theorem pR :∀(t:Ty) (x:t.D),(t.leaves x).length=t.sz
 | .st fs,x=>bU fs x
 | .int _,_ | .bool,_ | .str,_ | .err,_ | .row _ _,_ | .any _ _,_=>rfl
theorem bU :∀(ts:Tys) (x:ts.D),(ts.leaves x).length=ts.sz
 | .nil,_=>rfl
 | .cons t ts,x=>by simp only[Tys.leaves,jE2,pR t,bU ts,Tys.sz]
end
theorem mZ :∀{s:Shs} {x:s.T.D} {ns:List Nat} {c:List Lf} {ob':List (Nat×Ob)} {rest:List Nat},s.flat=true→s.mk ns x=some (c,ob',rest)→c.length=s.T.sz
 | .nil,x,ns,c,ob',rest,_,h=>by simp only[Shs.mk]at h;cases h;rfl
 | .cons s l,x,ns,c,ob',rest,hf,h=>by
  simp only[Shs.mk]at h;split at h
  ·rename_i c1 ob1 m1 h1;split at h
   ·rename_i c2 ob2 m2 h2;cases h
    cases s with
    | val t=>
     simp only[Sh.mk]at h1;cases h1;rw[jE2,mZ (s:=l) hf h2];exact congrArg (· + l.T.sz) (pR t _)
    | own e t=>
     simp only[Sh.mk]at h1;split at h1
     ·cases h1
     ·cases h1;rw[jE2,mZ (s:=l) hf h2];rfl
    | _=>cases hf
   ·cases h
  ·cases h
theorem mk_w :∀{s:Sh} {x:s.T.D} {ns:List Nat} {c:List Lf} {ob':List (Nat×Ob)} {rest:List Nat},s.mk ns x=some (c,ob',rest)→c.length=s.w
 | .val t,x,ns,c,ob',rest,h=>by simp only[Sh.mk]at h;cases h;exact pR _ _
 | .own e t,x,[],c,ob',rest,h=>by simp[Sh.mk]at h
 | .own e t,x,r::m,c,ob',rest,h=>by simp only[Sh.mk]at h;cases h;rfl
 | .mv e t,x,[],c,ob',rest,h=>by simp[Sh.mk]at h
 | .mv e t,x,r::m,c,ob',rest,h=>by simp only[Sh.mk]at h;cases h;rfl
 | .box T sh,x,[],c,ob',rest,h=>by simp[Sh.mk]at h
 | .box T sh,x,b::m,c,ob',rest,h=>by
  simp only[Sh.mk]at h;split at h
  ·cases h;rfl
  ·cases h
 | .fn f sh,x,ns,c,ob',rest,h=>by
  simp only[Sh.mk]at h;split at h
  ·cases h;rfl
  ·cases h
 | .rcd sh,x,ns,c,ob',rest,h=>by
  have h0:(if sh.flat=true then sh.mk ns x else none)=some (c,ob',rest):=h;by_cases hf:sh.flat=true
  ·rw[if_pos hf]at h0;exact mZ hf h0
  ·rw[if_neg hf]at h0;cases h0
mutual
theorem rL1 (hob:∀n o,look ob n=some o→ObOK w Z γ n o):∀{s:Sh} {l:List Lf} {x:s.T.D} {ns:List Nat} {vs:List Value},s.take ob l=some (x,ns)→All2 (LfOK w Z γ) l vs →
  ∃bx,s.Bx w vs bx∧(aH s.bxs ns).map γ=bx.map ptrV
 | .val t,l,x,ns,vs,h,hl=>by
  simp only[Sh.take]at h;split at h
  ·cases h;exact⟨[],rfl,rfl⟩
  ·cases h
 | .own e t,l,x,ns,vs,h,hl=>by
  refine⟨[],rfl,?_⟩
  cases ns with
  | nil=>rfl
  | cons n ns=>rfl
 | .mv e t,l,x,ns,vs,h,hl=>by
  refine⟨[],rfl,?_⟩
  cases ns with
  | nil=>rfl
  | cons n ns=>rfl
 | .box T sh,l,x,ns,vs,h,hl=>by
  simp only[Sh.take]at h;split at h
  ·rename_i b
   cases vs with
   | nil=>exact hl.elim
   | cons v vs=>
    cases vs with
    | cons _ _=>exact hl.2.elim
    | nil=>
     split at h
     ·rename_i T' c hlk;split at h
      ·rename_i hT;have hT:=beqt.1 hT;subst hT;split at h
       ·rename_i y m hy;cases h;obtain⟨g,h1,h2⟩:=hl.1;obtain⟨g',cur,h3,h4,h5⟩:=hob b _ hlk;rw[h1]at h3;cases h3;obtain⟨bx,h6,h7⟩:=vT hob hy h5;exact⟨g::bx,⟨g,cur,bx,by rw[h2],h4,h6,rfl⟩,by simp only[Sh.bxs,aH,qF2,h1,h7]⟩
       ·cases h
      ·cases h
     ·cases h
  ·cases h
 | .fn f sh,l,x,ns,vs,h,hl=>by
  simp only[Sh.take]at h;split at h
  ·rename_i f' cs
   cases vs with
   | nil=>exact hl.elim
   | cons v vs=>
    cases vs with
    | cons _ _=>exact hl.2.elim
    | nil=>
     have h0:(if Nat.beq f f'=true then sh.take ob (cs.map fun b=>.p b 0)else(none:Option (sh.T.D×List Nat)))=some (x,ns):=h;clear h;by_cases hf:Nat.beq f f'=true
     ·rw[if_pos hf]at h0;have hf:=beqt.1 hf;subst hf;have hv:=hl.1;obtain⟨bx,h6,h7⟩:=vT hob h0 (dF1 hv.2.2);exact⟨bx,⟨_,by rw[hv.1],hv.2.1,by simpa using h6⟩,h7⟩
     ·rw[if_neg hf]at h0;cases h0
  ·cases h
 | .rcd sh,l,x,ns,vs,h,hl=>by
  have h0:(if sh.flat=true then sh.take ob l else(none:Option (sh.T.D×List Nat)))=some (x,ns):=h;clear h;by_cases hf:sh.flat=true
  ·rw[if_pos hf]at h0;exact vT hob h0 hl
  ·rw[if_neg hf]at h0;cases h0
theorem vT (hob:∀n o,look ob n=some o→ObOK w Z γ n o):∀{s:Shs} {l:List Lf} {x:s.T.D} {ns:List Nat} {vs:List Value},s.take ob l=some (x,ns)→All2 (LfOK w Z γ) l vs →
  ∃bx,s.Bx w vs bx∧(aH s.bxs ns).map γ=bx.map ptrV
 | .nil,l,x,ns,vs,h,hl=>⟨[],rfl,rfl⟩
 | .cons s r,l,x,ns,vs,h,hl=>by
  simp only[Shs.take]at h;split at h
  ·rename_i y a hy;split at h
   ·rename_i z b hzz;cases h;obtain⟨_,k1,_,l1⟩:=jZ (Z':=fun _=>True) hob (fun _ _=>trivial) hy (All2.take s.w hl) fun _ _ _ _ _=>trivial
    obtain⟨b1,h1,h2⟩:=rL1 hob hy (All2.take s.w hl);obtain⟨b2,h3,h4⟩:=vT hob hzz (All2.drop s.w hl);refine⟨b1++b2,⟨_,_,b1,b2,(hG2 s.w vs).symm,rfl,l1,h1,h3⟩,?_⟩;have hk:=All2.length k1;rw[uP]at hk;rw[Shs.bxs,jJ (by rw[lN];exact hk),mF2,mF2,h2,h4]
   ·cases h
  ·cases h
end
theorem rZ (hob:∀n o,look ob n=some o→ObOK w Z γ n o):∀{s:Shs} {l:List Slot} {x:s.T.D} {ns:List Nat} {vs:List Value},s.takeA ob l=some (x,ns)→All2 (SlotOK w Z γ ob) l vs →
  ∃bx,s.BxA w vs bx∧(aH s.bxs ns).map γ=bx.map ptrV
 | .nil,l,x,ns,vs,h,hl=>⟨[],rfl,rfl⟩
 | .cons s r,l,x,ns,vs,h,hl=>by
  cases l with
  | nil=>simp only[Shs.takeA]at h;cases h
  | cons y l=>
   cases vs with
   | nil=>exact hl.elim
   | cons v vs=>
    simp only[Shs.takeA]at h;split at h
    ·rename_i cl hcl;split at h
     ·rename_i hag;have hag:=tN1 hag;split at h
      ·rename_i z a hy;split at h
       ·rename_i z' b hzz;cases h;obtain⟨hc1,_⟩:=nL hl.1 hcl;obtain⟨_,k1,_,_⟩:=jZ (Z':=fun _=>True) hob (fun _ _=>trivial) hy hc1 fun _ _ _ _ _=>trivial
        obtain⟨b1,h1,h2⟩:=rL1 hob hy hc1;obtain⟨b2,h3,h4⟩:=rZ hob hzz hl.2;have hk:=All2.length k1;rw[uP]at hk
        have hv:if s.agg=true then v = .agg (List.toArray v.cells.toList)else v.cells.toList=[v]:=by
         rw[←hag]
         cases y with
         | ag m=>
          obtain⟨cs,e,_⟩:=hl.1;subst e;simp[Slot.isAg,Value.cells]
         | lf c=>
          simp only[Slot.isAg,pF2,if_false];simp only[Slot.cells]at hcl;split at hcl
          ·rename_i hk;have h1:=LfOK.one hl.1 hk;cases v <;> first | rfl | cases h1
          ·cases hcl
         | _=>cases hcl
        exact⟨b1++b2,⟨v,vs,b1,b2,_,rfl,rfl,hv,h1,h3⟩,by rw[Shs.bxs,jJ (by rw[lN];exact hk),mF2,mF2,h2,h4]⟩
       ·cases h
      ·cases h
     ·cases h
    ·cases h
mutual
theorem dB2 :∀{s:Sh} {x:s.T.D} {ns:List Nat} {c:List Lf} {ob':List (Nat×Ob)} {rest:List Nat} {vs:List Value},s.mk ns x=some (c,ob',rest)→All2 (LfOK w Z γ) c vs→(∀n o,(n,o)∈ob'→ObOK w Z γ n o) →
  ob'.length=s.cnt ∧ ∃bx,s.Bx w vs bx∧(aH s.bxs (ob'.map (·.1))).map γ=bx.map ptrV
 | .val t,x,ns,c,ob',rest,vs,h,hl,hob=>by simp only[Sh.mk]at h;cases h;exact⟨rfl,[],rfl,rfl⟩
 | .own e t,x,[],c,ob',rest,vs,h,hl,hob=>by simp[Sh.mk]at h
 | .own e t,x,r::m,c,ob',rest,vs,h,hl,hob=>by simp only[Sh.mk]at h;cases h;exact⟨rfl,[],rfl,rfl⟩
 | .mv e t,x,[],c,ob',rest,vs,h,hl,hob=>by simp[Sh.mk]at h
 | .mv e t,x,r::m,c,ob',rest,vs,h,hl,hob=>by simp only[Sh.mk]at h;cases h;exact⟨rfl,[],rfl,rfl⟩
 | .box T sh,x,[],c,ob',rest,vs,h,hl,hob=>by simp[Sh.mk]at h
 | .box T sh,x,b::m,c,ob',rest,vs,h,hl,hob=>by
  simp only[Sh.mk]at h;split at h
  ·rename_i c1 ob1 m1 h1;cases h
   cases vs with
   | nil=>exact hl.elim
   | cons v vs=>
    cases vs with
    | cons _ _=>exact hl.2.elim
    | nil=>
     obtain⟨g,h2,h3⟩:=hl.1;obtain⟨g',cur,h4,h5,h6⟩:=hob b _ nE2;rw[h2]at h4;cases h4;obtain⟨h7,bx,h8,h9⟩:=lC1 h1 h6 fun n o hn=>hob n o (mE2 _ hn)
     exact⟨by simp[h7,Sh.cnt],g::bx,⟨g,cur,bx,by rw[h3],h5,h8,rfl⟩,by simp only[qF2,Sh.bxs,aH,h2,h9]⟩
  ·cases h
 | .fn f sh,x,ns,c,ob',rest,vs,h,hl,hob=>by
  simp only[Sh.mk]at h;split at h
  ·rename_i c1 ob1 m1 h1;split at h1
   ·rename_i ha;cases h
    cases vs with
    | nil=>exact hl.elim
    | cons v vs=>
     cases vs with
     | cons _ _=>exact hl.2.elim
     | nil=>
      have hv:=hl.1;have hc:All2 (LfOK w Z γ) c1 ((c1.map nA1).map γ):=by
       have e:∀{s:Shs} {x:s.T.D} {ns:List Nat} {c:List Lf} {ob':List (Nat×Ob)} {rest:List Nat},s.allBox=true→s.mk ns x=some (c,ob',rest)→c=(c.map nA1).map fun b=>.p b 0:=by
        intro s
        induction s using Shs.rec (motive_1:=fun _=>True)with
        | nil=>intro x ns c ob' rest _ h;simp only[Shs.mk]at h;cases h;rfl
        | cons s l _ ih=>
         intro x ns c ob' rest ha h
         cases s with
         | box T b=>
          simp only[Shs.mk]at h;split at h
          ·rename_i c1 ob1 m1 h1;split at h
           ·rename_i c2 ob2 m2 h2;cases h;have e2:=ih ha h2;simp only[Sh.mk]at h1;split at h1
            ·cases h1
            ·split at h1
             ·cases h1;rw[mF2,mF2,←e2];rfl
             ·cases h1
           ·cases h
          ·cases h
         | _=>cases ha
        | _=>trivial
       rw[show All2 (LfOK w Z γ) c1 ((c1.map nA1).map γ)=All2 (LfOK w Z γ) ((c1.map nA1).map fun b=>.p b 0) ((c1.map nA1).map γ) by rw[←e ha h1]];exact dF1 hv.2.2
      obtain⟨h7,bx,h8,h9⟩:=lC1 h1 hc hob;exact⟨h7,bx,⟨_,by rw[hv.1],hv.2.1,h8⟩,h9⟩
   ·cases h1
  ·cases h
 | .rcd sh,x,ns,c,ob',rest,vs,h,hl,hob=>by
  have h0:(if sh.flat=true then sh.mk ns x else none)=some (c,ob',rest):=h;by_cases hf:sh.flat=true
  ·rw[if_pos hf]at h0;exact lC1 (s:=sh) h0 hl hob
  ·rw[if_neg hf]at h0;cases h0
theorem lC1 :∀{s:Shs} {x:s.T.D} {ns:List Nat} {c:List Lf} {ob':List (Nat×Ob)} {rest:List Nat} {vs:List Value},s.mk ns x=some (c,ob',rest)→All2 (LfOK w Z γ) c vs→(∀n o,(n,o)∈ob'→ObOK w Z γ n o) →
  ob'.length=s.cnt ∧ ∃bx,s.Bx w vs bx∧(aH s.bxs (ob'.map (·.1))).map γ=bx.map ptrV
 | .nil,x,ns,c,ob',rest,vs,h,hl,hob=>by simp only[Shs.mk]at h;cases h;exact⟨rfl,[],rfl,rfl⟩
 | .cons s l,x,ns,c,ob',rest,vs,h,hl,hob=>by
  simp only[Shs.mk]at h;split at h
  ·rename_i c1 ob1 m1 h1;split at h
   ·rename_i c2 ob2 m2 h2;cases h;obtain⟨a,b,e,ha,hb⟩:=All2.split hl;obtain⟨l1,b1,h3,h4⟩:=dB2 h1 ha fun n o hn=>hob n o (bF2 _ hn)
    obtain⟨l2,b2,h5,h6⟩:=lC1 h2 hb fun n o hn=>hob n o (tE2 _ hn)
    refine⟨by rw[jE2,l1,l2];rfl,b1++b2,⟨a,b,b1,b2,e,rfl,by rw[←All2.length ha,mk_w h1],h3,h5⟩,?_⟩;rw[Shs.bxs,mF2,jJ (by rw[lN,gG2,l1]),mF2,mF2,h4,h6]
   ·cases h
  ·cases h
end
theorem yU1 :∀{s:Shs} {x:s.T.D} {ns:List Nat} {c:List (Bool×List Lf)} {ob':List (Nat×Ob)} {rest:List Nat} {vs:List Value},s.mkA ns x=some (c,ob',rest) →
  All2 (fun(y:Bool×List Lf) v=>if y.1=true then ∃cs,v = .agg cs∧All2 (LfOK w Z γ) y.2 cs.toList else ∃d,y.2=[d]∧LfOK w Z γ d v) c vs→(∀n o,(n,o)∈ob'→ObOK w Z γ n o) →
  ob'.length=s.cnt ∧ ∃bx,s.BxA w vs bx∧(aH s.bxs (ob'.map (·.1))).map γ=bx.map ptrV
 | .nil,x,ns,c,ob',rest,vs,h,hl,hob=>by simp only[Shs.mkA]at h;cases h;exact⟨rfl,[],rfl,rfl⟩
 | .cons s l,x,ns,c,ob',rest,vs,h,hl,hob=>by
  simp only[Shs.mkA]at h;split at h
  ·rename_i c1 ob1 m1 h1;split at h
   ·rename_i c2 ob2 m2 h2;cases h
    cases vs with
    | nil=>exact hl.elim
    | cons v vs=>
     have h0:=hl.1
     obtain⟨cs,hv,ha⟩:∃cs:List Value,(if s.agg=true then v = .agg (List.toArray cs)else cs=[v])∧All2 (LfOK w Z γ) c1 cs:=by
      dsimp only at h0
      cases hag:s.agg with
      | true=>
       rw[hag,if_pos rfl]at h0;obtain⟨cs,e,h3⟩:=h0;exact⟨cs.toList,by simp[e],h3⟩
      | false=>
       rw[hag,if_neg (by simp)]at h0;obtain⟨d,e,h3⟩:=h0;refine⟨[v],by simp,?_⟩;rw[e];exact⟨h3,trivial⟩
     obtain⟨l1,b1,h3,h4⟩:=dB2 h1 ha fun n o hn=>hob n o (bF2 _ hn)
     obtain⟨l2,b2,h5,h6⟩:=yU1 h2 hl.2 fun n o hn=>hob n o (tE2 _ hn)
     refine⟨by rw[jE2,l1,l2];rfl,b1++b2,⟨v,vs,b1,b2,cs,rfl,rfl,hv,h3,h5⟩,?_⟩;rw[Shs.bxs,mF2,jJ (by rw[lN,gG2,l1]),mF2,mF2,h4,h6]
   ·cases h
  ·cases h
mutual
theorem xV1 :∀{s:Sh} {cs:List Value} {c m:List Nat},s.Bx w cs c→m.length=s.cnt→(aH s.bxs m).length=c.length
 | .val _,_,_,m,h,_=>by rw[h];rfl
 | .own _ _,_,_,m,h,_=>by rw[h];cases m <;> rfl
 | .mv _ _,_,_,m,h,_=>by rw[h];cases m <;> rfl
 | .box _ sh,_,_,[],⟨_,_,_,_,_,_,_⟩,hm=>by simp[Sh.cnt]at hm
 | .box _ sh,_,_,x::m,⟨g,cur,bs',_,_,h,e⟩,hm=>by have:=lA1 h (m:=m) (by simpa[Sh.cnt]using hm);rw[e];simp only[Sh.bxs,aH,iF2,this]
 | .fn _ sh,_,_,m,⟨ps,_,_,h⟩,hm=>lA1 (s:=sh) h hm
 | .rcd sh,_,_,m,h,hm=>lA1 (s:=sh) h hm
theorem lA1 :∀{s:Shs} {cs:List Value} {c m:List Nat},s.Bx w cs c→m.length=s.cnt→(aH s.bxs m).length=c.length
 | .nil,_,_,m,h,_=>by rw[h];rfl
 | .cons s l,_,_,m,⟨a,b,c,d,_,e,_,h1,h2⟩,hm=>by
  simp only[Shs.cnt]at hm;have l1:(m.take s.cnt).length=s.cnt:=by rw[fF2];omega
  have hsp:=jJ (k:=s.bxs) (l:=m.take s.cnt) (k':=l.bxs) (l':=m.drop s.cnt) (by rw[lN,l1]);rw[hG2]at hsp;rw[Shs.bxs,hsp,e,jE2,jE2,xV1 h1 l1,lA1 h2 (by rw[fG2];omega)]
end
theorem vX1 :∀{s:Shs} {vs:List Value} {bx ns:List Nat},s.BxA w vs bx→(aH s.bxs ns).map γ=bx.map ptrV→ns.length=s.cnt →
  ∃bx',s.inout.Bx w (s.io vs) bx'∧(aH s.inout.bxs (s.keep ns)).map γ=bx'.map ptrV
 | .nil,_,_,_,h,_,_=>⟨[],rfl,rfl⟩
 | .cons s l,_,bx,ns,⟨v,vs',c,d,cs,e1,e2,h1,h2,h3⟩,hp,hn=>by
  subst e1 e2;have hlen:(ns.take s.cnt).length=s.cnt:=by rw[fF2];simp only[Shs.cnt]at hn;omega
  have hsp:=jJ (k:=s.bxs) (l:=ns.take s.cnt) (k':=l.bxs) (l':=ns.drop s.cnt) (by rw[lN,hlen]);rw[hG2]at hsp;rw[Shs.bxs,hsp,mF2,mF2]at hp;have hbl:((aH s.bxs (ns.take s.cnt)).map γ).length=(c.map ptrV).length:=by rw[gG2,gG2];exact xV1 h2 hlen
  obtain⟨hp1,hp2⟩:=List.append_inj hp hbl;obtain⟨b2,h4,h5⟩:=vX1 h3 hp2 (by rw[fG2];simp only[Shs.cnt]at hn;omega);have hmore:∀{u:Sh},u.agg=false→u.w=1→s=u→(∀l,(Shs.cons u l).inout = .cons u l.inout)→(∀(l:Shs) v vs,(Shs.cons u l).io (v::vs)=v::l.io vs)→(∀(l:Shs) (ns:List Nat),(Shs.cons u l).keep ns=ns.take u.cnt++l.keep (ns.drop u.cnt)) →
    ∃bx',(Shs.cons s l).inout.Bx w ((Shs.cons s l).io (v::vs')) bx'∧(aH (Shs.cons s l).inout.bxs ((Shs.cons s l).keep ns)).map γ=bx'.map ptrV:=by
   intro u hu1 hu2 hu3 hu4 hu5 hu6;subst hu3;rw[hu1,if_neg (by simp)]at h1;subst h1;rw[hu4,hu5,hu6];refine⟨c++b2,⟨[v],_,c,b2,rfl,rfl,hu2.symm,h2,h4⟩,?_⟩;rw[Shs.bxs,jJ (by rw[lN,hlen]),mF2,mF2,hp1,h5]
  cases s with
  | val t=>exact⟨b2,h4,h5⟩
  | mv e t=>exact⟨b2,h4,h5⟩
  | rcd b=>exact⟨b2,h4,h5⟩
  | own e t=>exact hmore rfl rfl rfl (fun _=>rfl) (fun _ _ _=>rfl) fun _ _=>rfl
  | box T b=>exact hmore rfl rfl rfl (fun _=>rfl) (fun _ _ _=>rfl) fun _ _=>rfl
  | fn f b=>exact hmore rfl rfl rfl (fun _=>rfl) (fun _ _ _=>rfl) fun _ _=>rfl
theorem rM :∀{s:Shs} {vs:List Value} {bx:List Nat},s.inout.BxA w vs bx→s.inout.Bx w vs bx
 | .nil,_,_,h=>h
 | .cons (.val _) l,_,_,h=>rM (s:=l) h
 | .cons (.mv _ _) l,_,_,h=>rM (s:=l) h
 | .cons (.rcd _) l,_,_,h=>rM (s:=l) h
 | .cons (.own e t) l,_,_,⟨v,vs',c,d,cs,e1,e2,h1,h2,h3⟩=>⟨[v],vs',c,d,e1,e2,rfl,by simp only[Sh.agg,pF2,if_false]at h1;rw[←h1];exact h2,rM (s:=l) h3⟩
 | .cons (.box T b) l,_,_,⟨v,vs',c,d,cs,e1,e2,h1,h2,h3⟩=>⟨[v],vs',c,d,e1,e2,rfl,by simp only[Sh.agg,pF2,if_false]at h1;rw[←h1];exact h2,rM (s:=l) h3⟩
 | .cons (.fn f b) l,_,_,⟨v,vs',c,d,cs,e1,e2,h1,h2,h3⟩=>⟨[v],vs',c,d,e1,e2,rfl,by simp only[Sh.agg,pF2,if_false]at h1;rw[←h1];exact h2,rM (s:=l) h3⟩
theorem iV1 :∀{a b:List Nat},eqL a b=true→a=b
 | [],[],_=>rfl
 | a::l,b::m,h=>by simp only[eqL,iE2]at h;rw[beqt.1 h.1,iV1 h.2]
 | [],_::_,h=>by cases h
 | _::_,[],h=>by cases h
theorem uU :∀{bk:List Nat} {fl:List Bool} {i n:Nat},bk.length=fl.length→(renew bk fl)[i]?=some n →
  (∃m,bk[i]?=some m∧fl[i]?=some true∧n=m+1000000)∨(bk[i]?=some n∧fl[i]?=some false)
 | [],[],i,n,_,h=>by simp[renew]at h
 | m::bk,true::fl,0,n,_,h=>by simp[renew]at h;exact .inl ⟨m,rfl,rfl,h.symm⟩
 | m::bk,false::fl,0,n,_,h=>by simp[renew]at h;subst h;exact .inr ⟨rfl,rfl⟩
 | m::bk,true::fl,i+1,n,hl,h=>by simp only[renew,qG2]at h ⊢;exact uU (by simpa using hl) h
 | m::bk,false::fl,i+1,n,hl,h=>by simp only[renew,qG2]at h ⊢;exact uU (by simpa using hl) h
 | [],_::_,_,_,hl,_=>by simp at hl
 | _::_,[],_,_,hl,_=>by simp at hl
theorem kP {s:St}:∀{bk:List Nat} {fl:List Bool} {i m:Nat},renewOK s bk fl=true→bk[i]?=some m→fl[i]?=some true→s.fresh (m+1000000)=true
 | m::bk,true::fl,0,k,h,h1,_=>by simp only[renewOK,iE2]at h;simp at h1;subst h1;exact h.1
 | m::bk,false::fl,0,k,h,_,h2=>by simp at h2
 | m::bk,true::fl,i+1,k,h,h1,h2=>by simp only[renewOK,iE2]at h;exact kP h.2 (by simpa using h1) (by simpa using h2)
 | m::bk,false::fl,i+1,k,h,h1,h2=>by simp only[renewOK]at h;exact kP h (by simpa using h1) (by simpa using h2)
 | [],_,_,_,_,h1,_=>by simp at h1
 | _::_,[],_,_,_,_,h2=>by simp at h2
theorem dX {n:Nat} {o:Ob}:∀{l ob:List (Nat×Ob)},look (eI ob l) n=some o→(n,o)∈l∨(n∉l.map (·.1)∧look ob n=some o)
 | [],_,h=>.inr ⟨by simp,h⟩
 | (k,b)::l,ob,h=>by
  simp only[eI]at h;rcases dX (l:=l) h with h | ⟨h1,h2⟩
  ·exact .inl (mE2 _ h)
  ·rw[zF]at h2;by_cases hk:k=n
   ·rw[if_pos hk]at h2;cases h2;subst hk;exact .inl nE2
   ·rw[if_neg hk]at h2;exact .inr ⟨by simp only[qF2,pE2,not_or];exact⟨Ne.symm hk,h1⟩,h2⟩
theorem uM {n:Nat} {o:Ob}:∀{l:List Nat} {ob:List (Nat×Ob)},look (delAll ob l) n=some o→n∉l∧look ob n=some o
 | [],_,h=>⟨by simp,h⟩
 | k::l,ob,h=>by
  simp only[delAll]at h;obtain⟨h1,h2⟩:=uM h;rw[bI]at h2;by_cases hk:k=n
  ·rw[if_pos hk]at h2;cases h2
  ·rw[if_neg hk]at h2;exact⟨by simp only[pE2,not_or];exact⟨Ne.symm hk,h1⟩,h2⟩
theorem sN {n:Nat}:∀(l a:List Nat),n∈a∨n∈l→n∈dedup a l
 | [],a,h=>by simpa[dedup]using h
 | k::l,a,h=>by
  simp only[dedup];split
  ·rename_i hk;refine sN l a ?_;rcases h with h | h
   ·exact .inl h
   ·rcases pE2.1 h with rfl | h
    ·obtain⟨m,hm,hb⟩:=rH2.1 hk;exact .inl (beqt.1 hb ▸ hm)
    ·exact .inr h
  ·refine sN l _ ?_;rcases h with h | h
   ·exact .inl (bF2 _ h)
   ·rcases pE2.1 h with rfl | h
    ·exact .inl (tE2 _ nE2)
    ·exact .inr h
theorem gA1 :∀(k n m:Nat),m∈fE n k→n≤m
 | 0,_,_,h=>by simp[fE]at h
 | k+1,n,m,h=>by
  simp only[fE,pE2]at h;rcases h with rfl | h
  ·exact rE2 _
  ·exact Nat.le_of_lt (gA1 k (n+1) m h)
theorem nX :∀(k n:Nat),(fE n k).Nodup
 | 0,_=>List.nodup_nil
 | k+1,n=>vH2.2 ⟨fun h=>absurd (gA1 k (n+1) n h) (by omega),nX k (n+1)⟩
theorem rO :∀{ks:List (Option (TypeId×Ty))} {ns:List Nat},All2 (KOK ob) ks ns → ∀n∈ns,∃o,look ob n=some o
 | [],[],_,n,h=>by simp at h
 | k::ks,m::ns,h,n,hn=>by
  rcases pE2.1 hn with rfl | hn
  ·have:=h.1
   cases k with
   | none=>obtain⟨T,l,h⟩:=this;exact⟨_,h⟩
   | some k=>obtain⟨xs,h⟩:=this;exact⟨_,h⟩
  ·exact rO h.2 n hn
 | [],_::_,h,_,_=>h.elim
 | _::_,[],h,_,_=>h.elim
mutual
theorem Ty.Rep.norow :∀{t:Ty} {x:t.D} {cs:List Value},t.rows=false→t.Rep w Z x cs→t.Rep w Z' x cs
 | .int _,_,_,_,h | .bool,_,_,_,h | .str,_,_,_,h=>h
 | .err,_,_,_,h=>h
 | .st fs,_,_,hr,h=>Tys.Rep.norow (ts:=fs) hr h
 | .row _ _,_,_,hr,_=>by cases hr
 | .any _ _,_,_,hr,⟨v,l,e,h1,h2⟩=>⟨v,l,e,h1,Ty.Rep.norow hr h2⟩
theorem Tys.Rep.norow :∀{ts:Tys} {x:ts.D} {cs:List Value},ts.rows=false→ts.Rep w Z x cs→ts.Rep w Z' x cs
 | .nil,_,_,_,h=>h
 | .cons _ _,_,_,hr,⟨a,b,e,h1,h2⟩=>by simp only[Tys.rows,wH2]at hr;exact⟨a,b,e,Ty.Rep.norow hr.1 h1,Tys.Rep.norow hr.2 h2⟩
end
mutual
theorem Sh.Rep.norow :∀{s:Sh} {x:s.T.D} {cs:List Value} {bs:List Nat},s.vr=false→s.Rep w Z x cs bs→s.Rep w Z' x cs bs
 | .val t,_,_,_,hr,h=>⟨Ty.Rep.norow hr h.1,h.2⟩
 | .own _ t,_,_,_,hr,⟨v,us,e,h1,h2,h3⟩=>⟨v,us,e,h1,RepL.imp (fun _ _ h=>Ty.Rep.norow hr h) h2,h3⟩
 | .mv _ t,_,_,_,hr,⟨v,us,e,h1,h2,h3⟩=>⟨v,us,e,h1,RepL.imp (fun _ _ h=>Ty.Rep.norow hr h) h2,h3⟩
 | .box _ sh,_,_,_,hr,⟨g,cur,bs',e,h1,h2,h3⟩=>⟨g,cur,bs',e,h1,Shs.Rep.norow (s:=sh) hr h2,h3⟩
 | .fn _ sh,_,_,_,hr,⟨ps,e,hk,h⟩=>⟨ps,e,hk,Shs.Rep.norow (s:=sh) hr h⟩
 | .rcd sh,_,_,_,hr,⟨hf,h⟩=>⟨hf,Shs.Rep.norow (s:=sh) hr h⟩
theorem Shs.Rep.norow :∀{s:Shs} {x:s.T.D} {cs:List Value} {bs:List Nat},s.vr=false→s.Rep w Z x cs bs→s.Rep w Z' x cs bs
 | .nil,_,_,_,_,h=>h
 | .cons s l,_,_,_,hr,⟨a,b,c,d,e1,e2,h1,h2⟩=>by simp only[Shs.vr,wH2]at hr;exact⟨a,b,c,d,e1,e2,Sh.Rep.norow hr.1 h1,Shs.Rep.norow hr.2 h2⟩
end
theorem Shs.RepA.norow :∀{s:Shs} {x:s.T.D} {vs:List Value} {bs:List Nat},s.vr=false→s.RepA w Z x vs bs→s.RepA w Z' x vs bs
 | .nil,_,_,_,_,h=>h
 | .cons s l,_,_,_,hr,⟨v,vs',c,d,e1,e2,⟨cs,h0,h1⟩,h2⟩=>by simp only[Shs.vr,wH2]at hr;exact⟨v,vs',c,d,e1,e2,⟨cs,h0,Sh.Rep.norow hr.1 h1⟩,Shs.RepA.norow hr.2 h2⟩
end
def Shs.RepR (w:World) (Z:Nat→Prop) (s:Shs) (y:s.T.D) (v:Value) (bs:List Nat):Prop:=∃vs,v=pI1 vs∧s.RepA w Z y vs bs
def dV (D:FnD) (w:World) (Z:Nat→Prop) (y:D.res.T.D) (v:Value) (bs:List Nat):Prop:=
 if D.opt=true then(D.res.T.nilB y=true∧v = .pointer none∧bs=[])∨(D.res.T.nilB y=false ∧ ∃v0,D.res.RepA w Z y [v0,v] bs)else D.res.RepR w Z y v bs
def Back (D:FnD) (w:World) (Z:Nat→Prop) (args:List Value) (bs:List Nat) (r:(D.res.T.app D.par.inout.T).D) (v:Value) (w':World):Prop:=
 ∃(Z':Nat→Prop) (bsR bsI:List Nat),Frm (· ∈ bs) w w'∧(∀b,Z' b→b<w'.heap.size∧(b<w.heap.size→Z b∨b∈bs)) ∧
  dV D w' Z' (D.res.T.fst D.par.inout.T r) v bsR∧D.par.inout.RepA w' Z' (D.res.T.snd D.par.inout.T r) (D.par.io args) bsI ∧
  (bsI++bsR).Nodup∧(∀b∈bsI++bsR,¬Z' b∧(b<w.heap.size→b∈bs))∧(D.idn=true → ∃bx,D.par.inout.Bx w (D.par.io args) bx∧D.par.inout.Bx w' (D.par.io args) bx)
section
variable {P : Program} {E : Env} {w0 w w' : World} {M Z0 Z Z' : Nat → Prop} {γ γ' : Nat → Value} {ob : List (Nat × Ob)} {s s2 : St} {a : Act} {D : FnD}
mutual
theorem Sh.Rep.more (hz:∀k,Z k→Z' k):∀{s:Sh} {x:s.T.D} {cs:List Value} {bs:List Nat},s.Rep w Z x cs bs→s.Rep w Z' x cs bs
 | .val t,_,_,_,h=>⟨Ty.Rep.stay (Stay.more w hz) h.1,h.2⟩
 | .own _ t,_,_,_,⟨v,us,e,h1,h2,h3⟩=>⟨v,us,e,h1,RepL.imp (fun _ _ h=>Ty.Rep.stay (Stay.more w hz) h) h2,h3⟩
 | .mv _ t,_,_,_,⟨v,us,e,h1,h2,h3⟩=>⟨v,us,e,h1,RepL.imp (fun _ _ h=>Ty.Rep.stay (Stay.more w hz) h) h2,h3⟩
 | .box _ sh,_,_,_,⟨g,cur,bs',e,h1,h2,h3⟩=>⟨g,cur,bs',e,h1,Shs.Rep.more hz (s:=sh) h2,h3⟩
 | .fn _ sh,_,_,_,⟨ps,e,hk,h⟩=>⟨ps,e,hk,Shs.Rep.more hz (s:=sh) h⟩
 | .rcd sh,_,_,_,⟨hf,h⟩=>⟨hf,Shs.Rep.more hz (s:=sh) h⟩
theorem Shs.Rep.more (hz:∀k,Z k→Z' k):∀{s:Shs} {x:s.T.D} {cs:List Value} {bs:List Nat},s.Rep w Z x cs bs→s.Rep w Z' x cs bs
 | .nil,_,_,_,h=>h
 | .cons s l,_,_,_,⟨a,b,c,d,e1,e2,h1,h2⟩=>⟨a,b,c,d,e1,e2,Sh.Rep.more hz h1,Shs.Rep.more hz h2⟩
end
theorem Shs.RepA.more (hz:∀k,Z k→Z' k):∀{s:Shs} {x:s.T.D} {vs:List Value} {bs:List Nat},s.RepA w Z x vs bs→s.RepA w Z' x vs bs
 | .nil,_,_,_,h=>h
 | .cons s l,_,_,_,⟨v,vs',c,d,e1,e2,⟨cs,h0,h1⟩,h2⟩=>⟨v,vs',c,d,e1,e2,⟨cs,h0,Sh.Rep.more hz h1⟩,Shs.RepA.more hz h2⟩
theorem vY1 {e:TypeId} {z n n':Nat} {v:Value} {cs cs':List Value} (h:w.ownsRow 0 e z v n cs) (h':w'.ownsRow 0 e z v n' cs'):n=n':=by rcases h.2 with⟨e1,e2⟩ | ⟨_,_,_,e1,_⟩ <;> rcases h'.2 with⟨e3,e4⟩ | ⟨_,_,_,e3,_⟩ <;> rw[e1]at e3 <;> cases e3 <;> first | rfl | (rw[e2,e4])
theorem jU1 {cs:List (Bool×List Lf)} {vs:List Value} {y:Slot} (hy:(match cs with | []=>.lf .u | [c]=>gS c | _=>.tp cs)=y)
  (h:All2 (fun(y:Bool×List Lf) v=>if y.1=true then ∃cs,v = .agg cs∧All2 (LfOK w Z γ) y.2 cs.toList else ∃d,y.2=[d]∧LfOK w Z γ d v) cs vs):SlotOK w Z γ ob y (pI1 vs):=by
 subst hy
 cases cs with
 | nil=>trivial
 | cons c cs=>
  cases vs with
  | nil=>exact h.elim
  | cons v vs=>
   cases cs with
   | nil=>
    cases vs with
    | nil=>exact sQ h.1
    | cons _ _=>exact h.2.elim
   | cons c2 cs=>
    cases vs with
    | nil=>exact h.2.elim
    | cons v2 vs=>exact⟨_,rfl,by simpa using h⟩
theorem kV {s1:St} {ns:List Nat} {args:List Value} {tm:Array Value} {Zc:Nat→Prop} {res:Shs} {xr:res.T.D} {xi:D.par.inout.T.D} {fl:Bool} (hi:Inv w0 M Z0 w Z γ s1.ob) (hs:SlotsOK w Z γ s1.ob s1.sl tm) (hb:1000≤s1.b)
  (hfl:fl=false→res.vr=false∧D.par.inout.vr=false) (hzc:∀k,Zc k→Z k∨(fl=false∧k<w.heap.size))
  (hkinds:All2 (KOK s1.ob) D.par.kinds ns) (htop:D.par.TopA args (ns.map γ)) (hrn:nodupB (renew (D.par.keep ns) D.nst)=true)
  (hrk:renewOK (s1.withOb (delAll s1.ob ns)) (D.par.keep ns) D.nst=true) {d:Option Nat}
  {c1:List Lf} {back:List (Nat×Ob)} {rest1:List Nat} {cs:List (Bool×List Lf)} {new:List (Nat×Ob)} {rest2:List Nat}
  (hm1:D.par.inout.mk (renew (D.par.keep ns) D.nst) xi=some (c1,back,rest1)) (hm2:res.mkA (fE (s1.id d) 12) xr=some (cs,new,rest2))
  (hnew:(new.all fun y=>(s1.withOb (delAll s1.ob ns)).fresh y.1 && !((renew (D.par.keep ns) D.nst).any (Nat.beq y.1)))=true)
  {Z':Nat→Prop} {bsR bsI:List Nat} {vs:List Value} (hfrm:Frm (· ∈ blks (ns.map γ)) w w') (hz':∀b,Z' b→b<w'.heap.size∧(b<w.heap.size→Zc b∨b∈blks (ns.map γ)))
  (hres:res.RepA w' Z' xr vs bsR) (hio:D.par.inout.RepA w' Z' xi (D.par.io args) bsI) (hnd:(bsI++bsR).Nodup) (hex:∀b∈bsI++bsR,¬Z' b∧(b<w.heap.size→b∈blks (ns.map γ))) (hidn:D.idn=true → ∃bx,D.par.inout.Bx w (D.par.io args) bx∧D.par.inout.Bx w' (D.par.io args) bx) (hbx0:∃bx,D.par.inout.Bx w (D.par.io args) bx∧(aH D.par.inout.bxs (D.par.keep ns)).map γ=bx.map ptrV):
  ∃Zn γn,Inv w0 M Z0 w' Zn γn (eI (delAll s1.ob ns) (back++new))∧All2 (fun(y:Bool×List Lf) v=>if y.1=true then ∃cs,v = .agg cs∧All2 (LfOK w' Zn γn) y.2 cs.toList else ∃d,y.2=[d]∧LfOK w' Zn γn d v) cs vs ∧
   SlotsOK w' Zn γn (eI (delAll s1.ob ns) (back++new)) s1.sl tm ∧ ∀n,n<1000→γn n=γ n:=by
    obtain⟨l,hl⟩:∃l,back++new=l:=⟨_,rfl⟩
    rw[hl];obtain⟨Zn,hZ,hZn,hres',hio'⟩:∃Zn:Nat→Prop,(∀k,Z k→Zn k)∧(∀k,Zn k→Z k∨(Z' k∧(k<w.heap.size→Z k∨k∈blks (ns.map γ)))) ∧
      res.RepA w' Zn xr vs bsR∧D.par.inout.RepA w' Zn xi (D.par.io args) bsI:=by
     cases hrows:fl with
     | true=>
      refine⟨fun k=>Z k∨Z' k,fun k h=>.inl h,fun k h=>h.imp id fun hk=>⟨hk,fun hlt=>?_⟩,Shs.RepA.more (fun k h=>.inr h) hres,Shs.RepA.more (fun k h=>.inr h) hio⟩;rcases(hz' k hk).2 hlt with h1 | h1
      ·rcases hzc k h1 with h2 | ⟨h2,_⟩
       ·exact .inl h2
       ·rw[hrows]at h2;cases h2
      ·exact .inr h1
     | false=>
      have hrows:=hfl hrows;exact⟨Z,fun _ h=>h,fun _ h=>.inl h,Shs.RepA.norow hrows.1 hres,Shs.RepA.norow hrows.2 hio⟩
    obtain⟨used,us,e1,hu1,hu2,hu3,hu4,hu5,hu6⟩:=tB1 (mU hio') hm1;obtain⟨used2,us2,e2,hr1,hr2,hr3,hr4,hr5⟩:=sP1 hres' hm2;have hlive:=rO hkinds
    have hbs:∀b∈blks (ns.map γ),∃n∈ns,(∃o,look s1.ob n=some o)∧blkV (γ n)=some b:=fun b hb=>by obtain⟨n,hn,hb⟩:=oM.1 hb;exact⟨n,hn,hlive n hn,hb⟩
    have hbsZ:∀b∈blks (ns.map γ),¬Z b∧(b<w0.heap.size→M b):=fun b hb=>by obtain⟨n,_,⟨o,ho⟩,hb⟩:=hbs b hb;exact hi.own n o b ho hb
    have hnewn:∀n∈used2,(s1.withOb (delAll s1.ob ns)).fresh n=true∧n∉used:=by intro n hn;rw[←hr3]at hn;obtain⟨p,hp,rfl⟩:=kF2.1 hn;have:=pG2.1 hnew p hp;simp only[iE2,bG2,List.any_eq_false]at this;exact⟨this.1,fun h=>this.2 p.1 (by rw[e1];exact bF2 _ h) (beqt.2 rfl)⟩
    have hnd1:used.Nodup:=by have:=bM hrn;rw[e1]at this;exact(vG2.1 this).1
    have hnd2:used2.Nodup:=by have:=nX 12 (s1.id d);rw[e2]at this;exact(vG2.1 this).1
    have hndn:(used++used2).Nodup:=vG2.2 ⟨hnd1,hnd2,fun x hx y hy e=>(hnewn y hy).2 (e ▸ hx)⟩;have hmap:=sG1 γ (vs:=us++us2) hndn (by simp[hu1,hr1]);obtain⟨γn,hγn⟩:∃γn,γn=upds γ (used++used2) (us++us2):=⟨_,rfl⟩
    rw[←hγn]at hmap;have hout:∀n,n∉used++used2→γn n=γ n:=fun n hn=>by rw[hγn];exact oH1 γ _ _ n hn
    have hmap':=hmap;rw[mF2]at hmap';obtain⟨hmap1,hmap2⟩:=List.append_inj hmap' (by simp[hu1]);have hkk:=kX hkinds;have hlenk:(D.par.keep ns).length=D.nst.length:=by rw[←All2.length hkk,xJ,vO1]
    have htop':=aW1 htop;rw[←rI1]at htop';have hid:1000≤s1.id d:=by unfold St.id;split <;> omega
    have hpos:∀(i n:Nat),used[i]?=some n→((s1.withOb (delAll s1.ob ns)).fresh n=true∧1000≤n)∨((D.par.keep ns)[i]?=some n∧γn n=γ n):=by
     intro i n hn;have h1:(renew (D.par.keep ns) D.nst)[i]?=some n:=by rw[e1,tF2 (sF2.1 hn).1];exact hn
     rcases uU hlenk h1 with⟨m,h2,h3,h4⟩ | ⟨h2,h3⟩
     ·subst h4;exact .inl ⟨kP hrk h2 h3,by omega⟩
     ·refine .inr ⟨h2,?_⟩;have h5:us[i]?=some (γn n):=by rw[←hmap1,hH2,hn];rfl
      have h6:((D.par.keep ns).map γ)[i]?=some (γ n):=by rw[hH2,h2];rfl
      by_cases hid':D.idn=true
      ·have hni:D.nst=nstL (D.par.inout.nest false) D.par.inout.bxs:=if_pos hid';have hkl:(D.par.keep ns).length=D.par.inout.cnt:=by rw[←All2.length hkk,xJ]
       cases hbi:D.par.inout.bxs[i]? with
       | none=>
        have q1:=List.getElem?_eq_none_iff.1 hbi;have q2:=(sF2.1 h2).1;rw[iL]at q1;omega
       | some bi=>
        cases bi with
        | false=>
         rw[hni]at h3;have h4:=eV hu5 htop' i (vH1 h3 hbi);rw[h5,h6]at h4;exact oF2 h4
        | true=>
         obtain⟨bx,q1,q2⟩:=hidn hid';obtain⟨bx0,q3,q4⟩:=hbx0;obtain⟨q5,bx1,q6,q7⟩:=lC1 hm1 (hu6 γn hmap1).1 (hu6 γn hmap1).2;have e3:=jX q1 q3;have e4:=jX q2 q6;subst e3;rw[←e4,←q4,hu3]at q7;exact aW (by rw[iL,←hu3,gG2,q5]) (by rw[iL,hkl]) q7 hbi hn h2
      ·have h4:=eV hu5 htop' i (by unfold FnD.nst at h3;rw[if_neg hid']at h3;exact h3);rw[h5,h6]at h4;exact oF2 h4
    have claim:∀n∈used++used2,((s1.withOb (delAll s1.ob ns)).fresh n=true∧1000≤n)∨γn n=γ n:=by
     intro n hn;rcases xE2.1 hn with hn | hn
     ·obtain⟨i,hi⟩:=List.getElem?_of_mem hn;exact(hpos i n hi).imp id And.right
     ·refine .inl ⟨(hnewn n hn).1,sG2 hid (gA1 12 _ n ?_)⟩;rw[e2];exact bF2 _ hn
    have hnot:∀n,(s1.withOb (delAll s1.ob ns)).fresh n=false→γn n=γ n:=by
     intro n hn;by_cases hm:n∈used++used2
     ·rcases claim n hm with h | h
      ·rw[hn]at h;cases h.1
      ·exact h
     ·exact hout n hm
    have hlk:∀n o,look (eI (delAll s1.ob ns) l) n=some o→((n,o)∈back++new∧n∈used++used2)∨(n∉used++used2∧n∉ns∧look s1.ob n=some o∧look (delAll s1.ob ns) n=some o):=by
     intro n o h;rw[←hl]at h;rcases dX h with h | ⟨h1,h2⟩
     ·refine .inl ⟨h,?_⟩;rw[←hu3,←hr3,←mF2];exact kF2.2 ⟨_,h,rfl⟩
     ·rw[mF2,hu3,hr3]at h1;obtain⟨h3,h4⟩:=uM h2;exact .inr ⟨h1,h3,h4,h2⟩
    have hobs:∀n o,(n,o)∈back++new→ObOK w' Zn γn n o:=fun n o h=>
     (xE2.1 h).elim ((hu6 γn hmap1).2 n o) ((hr5 γn hmap2).2 n o)
    have hex':∀n∈used++used2,∀b,blkV (γn n)=some b→b∈bsI++bsR:=by intro n hn b hb;have:b∈blks ((used++used2).map γn):=oM.2 ⟨n,hn,hb⟩;rwa[hmap,sH,hu2,hr2]at this
    have hdisj':∀n∈used++used2,∀m∈used++used2,∀b,blkV (γn n)=some b→blkV (γn m)=some b→n=m:=fun n hn m hm b h1 h2=>
     rW (l:=used++used2) (by rw[hmap,sH,hu2,hr2];exact hnd) n m b hn hm h1 h2
    have hold:∀n o b,look s1.ob n=some o→n∉ns→blkV (γ n)=some b→b<w.heap.size∧b∉blks (ns.map γ):=by intro n o b h1 h2 h3;refine⟨yR (hi.obs n o h1) h3,fun hb=>?_⟩;obtain⟨m,hm,⟨o',ho'⟩,hb'⟩:=hbs b hb;exact h2 (hi.disj n m o o' b h1 ho' h3 hb' ▸ hm)
    have hst:Stay w w' Z Zn:=Stay.of_block fun k hk=>⟨hZ k hk,hfrm.block k (hi.zlt k hk) fun hb=>(hbsZ k hb).1 hk⟩
    refine⟨Zn,γn,⟨hi.frm.trans hfrm fun k hk hb=>(hbsZ k hb).2 hk,?_,?_,?_,?_,?_⟩,?_,⟨hs.len,fun i=>?_⟩,?_⟩
    ·intro b hb;rcases hZn b hb with h | ⟨h,_⟩
     ·exact uF2 (hi.zlt b h) hfrm.size
     ·exact(hz' b h).1
    ·intro b hb hlt;rcases hZn b hb with h | ⟨_,h⟩
     ·exact hi.zold b h hlt
     ·rcases h (uF2 hlt hi.frm.size)with h | h
      ·exact hi.zold b h hlt
      ·exact .inr ((hbsZ b h).2 hlt)
    ·intro n o h;rcases hlk n o h with⟨h1,_⟩ | ⟨h1,h2,h3,h4⟩
     ·exact hobs n o h1
     ·have h5:=hi.obs n o h3;refine h5.keep hst (fun k hk=>hfrm.block k (hold n o k h3 h2 hk).1 (hold n o k h3 h2 hk).2) (hout n h1) fun m hm=>hnot m ?_
      cases hf:(s1.withOb (delAll s1.ob ns)).fresh m with
      | false=>rfl
      | true=>rw[(iT (s:=s1.withOb (delAll s1.ob ns)) hf h4).2]at hm;cases hm
    ·intro n m o o' b h h' hb1 hb2;rcases hlk n o h with⟨_,h1⟩ | ⟨h1,h2,h3,_⟩ <;> rcases hlk m o' h' with⟨_,h1'⟩ | ⟨h1',h2',h3',_⟩
     ·exact hdisj' n h1 m h1' b hb1 hb2
     ·exfalso;rw[hout m h1']at hb2;have h5:=hold m o' b h3' h2' hb2;exact h5.2 ((hex b (hex' n h1 b hb1)).2 h5.1)
     ·exfalso;rw[hout n h1]at hb1;have h5:=hold n o b h3 h2 hb1;exact h5.2 ((hex b (hex' m h1' b hb2)).2 h5.1)
     ·rw[hout n h1]at hb1;rw[hout m h1']at hb2;exact hi.disj n m o o' b h3 h3' hb1 hb2
    ·intro n o b h hb1;rcases hlk n o h with⟨_,h1⟩ | ⟨h1,h2,h3,_⟩
     ·have h5:=hex b (hex' n h1 b hb1);refine⟨fun hz=>?_,fun hlt=>(hbsZ b (h5.2 (uF2 hlt hi.frm.size))).2 hlt⟩;rcases hZn b hz with h6 | ⟨h6,_⟩
      ·exact(hbsZ b (h5.2 (hi.zlt b h6))).1 h6
      ·exact h5.1 h6
     ·rw[hout n h1]at hb1;have h5:=hold n o b h3 h2 hb1;refine⟨fun hz=>?_,(hi.own n o b h3 hb1).2⟩;rcases hZn b hz with h6 | ⟨_,h6⟩
      ·exact(hi.own n o b h3 hb1).1 h6
      ·rcases h6 h5.1 with h7 | h7
       ·exact(hi.own n o b h3 hb1).1 h7
       ·exact h5.2 h7
    ·exact(hr5 γn hmap2).1
    ·refine SlotOK.keep hst (hs.ok i) fun n hn=>?_
     have hf:(s1.withOb (delAll s1.ob ns)).fresh n=false:=by
      cases hf:(s1.withOb (delAll s1.ob ns)).fresh n with
      | false=>rfl
      | true=>
       have:=mT (s:=s1.withOb (delAll s1.ob ns)) (i:=i) hf;simp only[St.withOb]at this;rw[this]at hn;cases hn
     refine⟨hnot n hf,fun E t xs h=>?_⟩;rcases hlk n _ h with⟨h1,_⟩ | ⟨_,_,h3,_⟩
     ·rcases xE2.1 h1 with h1 | h1
      ·have hob:=hobs n _ (bF2 _ h1);obtain⟨j,hj⟩:=List.getElem?_of_mem h1;have hju:used[j]?=some n:=by rw[←hu3,hH2,hj];rfl
       rcases hpos j n hju with⟨h4,_⟩ | ⟨h4,h5⟩
       ·rw[h4]at hf;cases hf
       ·have hkl:j<D.par.inout.kinds.length:=by rw[All2.length hu4];exact(sF2.1 hj).1
        have hk1:=All2.get j _ _ hu4 (sE2 hkl) hj;have hk2:=All2.get j _ _ hkk (sE2 hkl) h4;cases hkd:D.par.inout.kinds[j]with
        | none=>rw[hkd]at hk1;obtain⟨T,l',e3⟩:=hk1;cases e3
        | some kd=>
         obtain⟨E',t'⟩:=kd;rw[hkd]at hk1 hk2;obtain⟨xs',e3⟩:=hk1;obtain⟨ys,e4⟩:=hk2;cases e3;refine⟨E,ys,e4,?_⟩;obtain⟨cs1,h7,_⟩:=hi.obs n _ e4;obtain⟨cs2,h8,_⟩:=hob;rw[h5]at h8;exact vY1 h7 h8
      ·exfalso;have h4:n∈used2:=by rw[←hr3];exact kF2.2 ⟨_,h1,rfl⟩
       rw[(hnewn n h4).1]at hf;cases hf
     ·exact⟨E,xs,h3,rfl⟩
    ·intro n hn;by_cases hm:n∈used++used2
     ·rcases claim n hm with h | h
      ·omega
      ·exact h
     ·exact hout n hm
theorem aZ1 {s1:St} {ns:List Nat} {args:List Value} {tm:Array Value} {Zc:Nat→Prop} (hi:Inv w0 M Z0 w Z γ s1.ob) (hs:SlotsOK w Z γ s1.ob s1.sl tm) (hb:1000≤s1.b)
  (hzc:∀k,Zc k→Z k∨((D.res.vr||D.par.inout.vr)=false∧k<w.heap.size))
  (hkinds:All2 (KOK s1.ob) D.par.kinds ns) (htop:D.par.TopA args (ns.map γ)) (hrn:nodupB (renew (D.par.keep ns) D.nst)=true)
  (hrk:renewOK (s1.withOb (delAll s1.ob ns)) (D.par.keep ns) D.nst=true) {d:Option Nat} {r:(D.res.T.app D.par.inout.T).D} {y:Slot} {l:List (Nat×Ob)}
  (hbk:backAny D (s1.withOb (delAll s1.ob ns)) (s1.id d) (renew (D.par.keep ns) D.nst) r=some (y,l)) (hbx0:∃bx,D.par.inout.Bx w (D.par.io args) bx∧(aH D.par.inout.bxs (D.par.keep ns)).map γ=bx.map ptrV) {v:Value} (h:Back D w Zc args (blks (ns.map γ)) r v w'):
  ∃Zn γn,Inv w0 M Z0 w' Zn γn (eI (delAll s1.ob ns) l)∧SlotOK w' Zn γn (eI (delAll s1.ob ns) l) y v∧SlotsOK w' Zn γn (eI (delAll s1.ob ns) l) s1.sl tm ∧ ∀n,n<1000→γn n=γ n:=by
 have hfl:(D.res.vr||D.par.inout.vr)=false→D.res.vr=false∧D.par.inout.vr=false:=by intro h;rw[wH2]at h;exact h
 obtain⟨Z',bsR,bsI,hfrm,hz',hres,hio,hnd,hex,hidn⟩:=h;unfold backAny at hbk;unfold dV at hres;split at hbk
 ·rename_i ho;rw[if_pos ho]at hres;unfold nZ1 at hbk;split at hbk
  ·cases hbk
  ·rename_i c1 back rest1 hm1;rcases hres with⟨hn,rfl,rfl⟩ | ⟨hn,v0,hres⟩
   ·rw[hn]at hbk;cases hbk;have:=kV (d:=d) (res:=.nil) (xr:=()) (cs:=[]) (new:=[]) (vs:=[]) hi hs hb (fun h=>⟨rfl,(hfl h).2⟩) hzc hkinds htop hrn hrk hm1 rfl rfl hfrm hz' ⟨rfl,rfl⟩ hio (by simpa using hnd) (by simpa using hex) hidn hbx0;rw[zE2]at this;obtain⟨Zn,γn,h1,_,h3,h4⟩:=this;exact⟨Zn,γn,h1,rfl,h3,h4⟩
   ·rw[hn]at hbk;simp only[cond_false]at hbk;split at hbk
    ·rename_i c0 c new rest2 hm2;split at hbk
     ·rename_i hnew;cases hbk;obtain⟨Zn,γn,h1,h2,h3,h4⟩:=kV (d:=d) hi hs hb hfl hzc hkinds htop hrn hrk hm1 hm2 hnew hfrm hz' hres hio hnd hex hidn hbx0;exact⟨Zn,γn,h1,sQ h2.2.1,h3,h4⟩
     ·cases hbk
    ·cases hbk
 ·rename_i ho;rw[if_neg ho]at hres;obtain⟨vs,hv,hres⟩:=hres;unfold yX at hbk;split at hbk
  ·cases hbk
  ·rename_i c1 back rest1 hm1;split at hbk
   ·cases hbk
   ·rename_i cs new rest2 hm2;split at hbk
    ·rename_i hnew;simp only[Option.some.injEq,Prod.mk.injEq]at hbk;obtain⟨hy,rfl⟩:=hbk;obtain⟨Zn,γn,h1,h2,h3,h4⟩:=kV (d:=d) hi hs hb hfl hzc hkinds htop hrn hrk hm1 hm2 hnew hfrm hz' hres hio hnd hex hidn hbx0;exact⟨Zn,γn,h1,by rw[hv];exact jU1 hy h2,h3,h4⟩
    ·cases hbk
theorem id_b {s s':St} (h:s'.b=s.b) (d:Option Nat):s'.id d=s.id d:=by unfold St.id;rw[h]
theorem rT {α:Type} {l:List α} (h:isNil l=true):l=[]:=by cases l <;> first | rfl | cases h
theorem lU1 {d:Option Nat} {xs:List Operand} {as0 caps:List Slot} {x:D.par.T.D} {k:(D.res.T.app D.par.inout.T).D→Option (Slot×List (Nat×Ob))} (h:pB1 D s d xs as0 caps=some (s2,x,k))
  (hi:Inv w0 M Z0 w Z γ s.ob) (hs:SlotsOK w Z γ s.ob s.sl a.tmps) (hb:1000≤s.b) {cs:List Nat} (hcaps:caps=cs.map fun b=>.lf (.p b 0)) (hcs:∀b∈cs,∃g,γ b = .pointer (some ⟨g,0,none⟩)):
  ∃(Zc:Nat→Prop) (bs:List Nat),D.par.RepA w Zc x (xs.map a.eval++cs.map γ) bs∧bs.Nodup∧(∀b∈bs,¬Zc b∧b<w.heap.size∧(b<w0.heap.size→M b))∧(∀b,Zc b→b<w.heap.size)∧s2.b=s.b ∧
   ∀r y l v w',k r=some (y,l)→Back D w Zc (xs.map a.eval++cs.map γ) bs r v w' →
    ∃Zn γn,Inv w0 M Z0 w' Zn γn (eI s2.ob l)∧SlotOK w' Zn γn (eI s2.ob l) y v∧SlotsOK w' Zn γn (eI s2.ob l) s2.sl a.tmps ∧ ∀n,n<1000→γn n=γ n:=by
 unfold pB1 at h;obtain⟨s1,hs1⟩:∃s1,s1=(if(D.res.vr||D.par.inout.vr)=true then s.frzAll (D.par.valsA s.ob (as0++caps))else s):=⟨_,rfl⟩
 simp only[←hs1]at h;obtain⟨Z1,_,hi1,hsl1,hb1⟩:∃Z1,(∀k,Z k→Z1 k)∧Inv w0 M Z0 w Z1 γ s1.ob∧SlotsOK w Z1 γ s1.ob s1.sl a.tmps∧s1.b=s.b:=by
  rw[hs1];split
  ·obtain⟨Z1,h1,h2,h3⟩:=vL (D.par.valsA s.ob (as0++caps)) hi hs;exact⟨Z1,h1,h2,h3,qO _ _⟩
  ·exact⟨Z,fun _ h=>h,hi,hs,rfl⟩
 split at h
 ·cases h
 ·rename_i as has;split at h
  ·cases h
  ·rename_i x' ns hta;split at h
   ·rename_i hnd;split at h
    ·rename_i hok;cases h;simp only[iE2,kG2,bG2]at hok;obtain⟨⟨hrn,hrk⟩,hrows⟩:=hok;have hcapsv:All2 (SlotOK w Z1 γ s1.ob) caps (cs.map γ):=by
      subst hcaps;clear has hta hnd hrn hrk hrows hs1
      induction cs with
      | nil=>trivial
      | cons b cs ih=>
       obtain⟨g,hg⟩:=hcs b nE2;exact⟨⟨g,hg,hg⟩,ih fun b hb=>hcs b (mE2 _ hb)⟩
     have hargs:=All2.append (mO has hsl1) hcapsv
     let Zc:Nat→Prop:=fun k=>Z1 k ∨ ∃r∈rowNames (D.par.valsA s1.ob (as++caps)),(look s1.ob r).isSome=true∧blkV (γ r)=some k
     obtain⟨hrep,hkinds,htop⟩:=oP (Z':=Zc) hi1.obs (fun k hk=>.inl hk) hta hargs fun r hr hl k hk=>.inr ⟨r,hr,hl,hk⟩
     have hlive:=rO hkinds;have hnd':=bM hnd;obtain⟨hnd1,_,hnd2⟩:=vG2.1 hnd';refine⟨Zc,_,hrep,aO hnd1 fun n m b hn hm h1 h2=>?_,?_,?_,hb1,?_⟩
     ·obtain⟨o,ho⟩:=hlive n hn;obtain⟨o',ho'⟩:=hlive m hm;exact hi1.disj n m o o' b ho ho' h1 h2
     ·intro b hb;obtain⟨n,hn,hbn⟩:=oM.1 hb;obtain⟨o,ho⟩:=hlive n hn;refine⟨?_,yR (hi1.obs n o ho) hbn,(hi1.own n o b ho hbn).2⟩;rintro(hz | ⟨r,hr,hrl,hrb⟩)
      ·exact(hi1.own n o b ho hbn).1 hz
      ·obtain⟨o',ho'⟩:=dH2.1 hrl;have:=hi1.disj n r o o' b ho ho' hbn hrb;subst this;exact hnd2 n hn n (sN _ [] (.inr hr)) rfl
     ·rintro b (hz | ⟨r,hr,hrl,hrb⟩)
      ·exact hi1.zlt b hz
      ·obtain⟨o',ho'⟩:=dH2.1 hrl;exact yR (hi1.obs r o' ho') hrb
     ·intro r y l v w' hk hbk;have hbx0:∃bx,D.par.inout.Bx w (D.par.io (xs.map a.eval++cs.map γ)) bx∧(aH D.par.inout.bxs (D.par.keep ns)).map γ=bx.map ptrV:=by obtain⟨bx,g1,g2⟩:=rZ hi1.obs hta hargs;exact vX1 g1 g2 (by rw[←All2.length hkinds,xJ])
      refine aZ1 (d:=d) (tm:=a.tmps) hi1 hsl1 (by rw[hb1];exact hb) ?_ hkinds htop hrn hrk (by rw[id_b hb1];exact hk) hbx0 hbk;rintro k (hz | ⟨r',hr,hrl,hrb⟩)
      ·exact .inl hz
      ·rcases hrows with hrows | hrows
       ·obtain⟨o',ho'⟩:=dH2.1 hrl;exact .inr ⟨hrows,yR (hi1.obs r' o' ho') hrb⟩
       ·rw[rT hrows]at hr;cases hr
    ·cases h
   ·cases h
end
end Go.GV
