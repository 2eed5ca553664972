/-
Part of the words that MeetSpans is proved with: no statement of its own, no conditions.
-/
import Derived.Test.YtegmfagkklekaaaGreatDoorFMeetSpanse
set_option linter.unusedVariables false
set_option linter.unusedSimpArgs false
namespace Go.GV
section
variable {P : Program} {E : Env} {R : Type} {ev : Ev E} {inl : FuncId → List Slot → St → (Slot → List (Nat × Ob) → Option R) → Option R} {ops : Array Oper} {s t s1 s2 : St} {o : Oper}
theorem tr_w {e:Ent} {s':St} (hw:e.w=true):Tr ev inl ops o e s s' ↔ ∃x ob,s'=(s.withOb ob).setd o.dst x∧(∀n,n∉e.nm→look ob n=look s.ob n) ∧
   ∀t,Sees ops o s t→t.ob=s.ob→(∀n∈e.mn,t.sl.any (Slot.names n)=s.sl.any (Slot.names n))→To ev inl ops o t ((t.withOb ob).setd o.dst x):=by
 unfold Tr;rw[if_pos hw]
theorem tr_r {e:Ent} {s':St} (hw:e.w=false):Tr ev inl ops o e s s' ↔ ∃x,s'=s.setd o.dst x∧(∀n∈s.oldNms o.dst,n∈e.mn)∧(∀n∈x.nms,n∈e.mn) ∧
   ∀t,Sees ops o s t→(∀n∈e.nm,look t.ob n=look s.ob n)→To ev inl ops o t (t.setd o.dst x):=by
 unfold Tr;rw[if_neg (by rw[hw];decide)]
theorem bT {d e:Option Nat} {x:Slot} (h:∀i,d=some i→e≠some i):(s.setd d x).oldNms e=s.oldNms e:=by
 cases e with
 | none=>rfl
 | some j=>
  simp only[St.oldNms];rw[zA1 fun i hi e=>h i hi (by rw[e])]
theorem eR {a b:Ent} (h:wU a b=true):(a.w=false∧b.w=false)∨(¬(a.w=true∧b.w=true)∧(∀n∈a.nm,n∉b.nm) ∧ ∀n∈a.mn,n∉b.mn):=by
 unfold wU at h;simp only[kG2,iE2,bG2,pG2,List.any_eq_false]at h;rcases h with h | ⟨⟨h1,h2⟩,h3⟩
 ·exact .inl h
 ·refine .inr ⟨fun⟨e1,e2⟩=>(by rw[e1,e2]at h1;cases h1),fun n hn hb=>?_,fun n hn hb=>?_⟩
  ·exact absurd (jL n) (h2 n hn n hb)
  ·exact absurd (jL n) (h3 n hn n hb)
theorem Sees.withOb' {ob:List (Nat×Ob)}:Sees ops o (s.withOb ob) s:=⟨rfl,fun _ _=>rfl⟩
theorem swap {ok oi:Oper} {ek ei:Ent} (hap:Oper.apart ops ok oi=true) (hrel:wU ek ei=true) (hk:Tr ev inl ops ok ek s s1) (hi:Tr ev inl ops oi ei s1 s2):∃s1',Tr ev inl ops oi ei s s1'∧Tr ev inl ops ok ek s1' s2:=by
 obtain⟨a1,a2,a3⟩:=Oper.apart_spec hap;have a2':∀d,oi.dst=some d→ok.dst≠some d:=fun d h1 h2=>a2 d h2 h1
 cases hwk:ek.w with
 | false=>
  obtain⟨x,rfl,k1,k2,k3⟩:=(tr_r hwk).1 hk
  cases hwi:ei.w with
  | false=>
   obtain⟨y,rfl,i1,i2,i3⟩:=(tr_r hwi).1 hi;have hob:=(iE s ok.dst x).1;have hob2:=(iE s oi.dst y).1;refine⟨s.setd oi.dst y,(tr_r hwi).2 ⟨y,rfl,by rw[←bT (x:=x) a2];exact i1,i2,fun t ht hl=>i3 t ((Sees.setd' a1).trans ht) (by rw[hob];exact hl)⟩,(tr_r hwk).2 ⟨x,?_,by rw[bT a2'];exact k1,k2,fun t ht hl=>?_⟩⟩
   ·exact nU a2
   ·exact k3 t ((Sees.setd a3).trans ht) (by rw[hob2]at hl;exact hl)
  | true=>
   obtain⟨y,ob,rfl,i1,i2⟩:=(tr_w hwi).1 hi;have hob:=(iE s ok.dst x).1;rcases eR hrel with⟨_,h⟩ | ⟨_,hdis,hmn⟩
   ·rw[hwi]at h;cases h
   refine⟨(s.withOb ob).setd oi.dst y,(tr_w hwi).2 ⟨y,ob,rfl,fun n hn=>by rw[i1 n hn,hob],fun t ht hto hf=>i2 t ((Sees.setd' a1).trans ht) (hto.trans hob.symm) fun n hn=>?_⟩,(tr_r hwk).2 ⟨x,?_,?_,k2,fun t ht hl=>?_⟩⟩
   ·rw[hf n hn,uH1 (fun h=>hmn n (k2 n h) hn) (fun h=>hmn n (k1 n h) hn)]
   ·rw[sJ,sJ,sJ,nU a2]
   ·rw[bT a2'];exact k1
   ·refine k3 t ((Sees.withOb.trans (Sees.setd a3)).trans ht) fun n hn=>?_
    rw[hl n hn,(iE _ _ _).1];exact(i1 n (hdis n hn)).trans (by rw[hob])
 | true=>
  obtain⟨x,ob,rfl,k1,k2⟩:=(tr_w hwk).1 hk;have hwi:ei.w=false:=by
   rcases eR hrel with⟨h,_⟩ | ⟨h,_⟩
   ·rw[hwk]at h;cases h
   ·cases hh:ei.w with
    | false=>rfl
    | true=>exact absurd ⟨hwk,hh⟩ h
  rcases eR hrel with⟨h,_⟩ | ⟨_,hdis,hmn⟩
  ·rw[hwk]at h;cases h
  obtain⟨y,rfl,i1,i2,i3⟩:=(tr_r hwi).1 hi;have hob:=(iE (s.withOb ob) ok.dst x).1;have hold:((s.withOb ob).setd ok.dst x).oldNms oi.dst=s.oldNms oi.dst:=(bT a2).trans rfl;rw[hold]at i1;refine⟨s.setd oi.dst y,(tr_r hwi).2 ⟨y,rfl,i1,i2,fun t ht hl=>i3 t (((Sees.setd' a1).trans Sees.withOb').trans ht) fun n hn=>?_⟩,(tr_w hwk).2 ⟨x,ob,?_,fun n hn=>?_,fun t ht hto hf=>?_⟩⟩
  ·rw[hl n hn,hob];exact(k1 n (fun h=>hdis n h hn)).symm
  ·rw[sJ,sJ,nU a2,sJ]
  ·rw[k1 n hn,(iE _ _ _).1]
  ·refine k2 t ((Sees.setd a3).trans ht) (hto.trans (iE _ _ _).1) fun n hn=>?_
   rw[hf n hn,uH1 (fun h=>hmn n hn (i2 n h)) (fun h=>hmn n hn (i1 n h))]
abbrev Pt :=Nat×Oper×Ent
def Path (ev:Ev E) (inl:FuncId→List Slot→St→(Slot→List (Nat×Ob)→Option R)→Option R) (ops:Array Oper):List Pt→St→St→Prop
 | [],s,s'=>s'=s
 | p::l,s,s'=>∃s1,Tr ev inl ops p.2.1 p.2.2 s s1∧Path ev inl ops l s1 s'
theorem pC1 {x:Pt}:∀{l l':List Pt} {s s':St},(∀y∈l,wU y.2.2 x.2.2=true∧Oper.apart ops y.2.1 x.2.1=true)→Path ev inl ops (l++x::l') s s' → ∃s1,Tr ev inl ops x.2.1 x.2.2 s s1∧Path ev inl ops (l++l') s1 s'
 | [],l',s,s',_,h=>h
 | y::l,l',s,s',hy,⟨s1,h1,h2⟩=>by obtain⟨s2,h3,h4⟩:=pC1 (fun z hz=>hy z (mE2 _ hz)) h2;obtain⟨h5,h6⟩:=hy y nE2;obtain⟨s1',h7,h8⟩:=swap h6 h5 h1 h3;exact⟨s1',h7,s2,h8,h4⟩
def wR1 (m:Nat→Nat) (ops:Array Oper) (p q:Pt):Prop:=(m q.1).testBit p.1=true∨(wU p.2.2 q.2.2=true∧Oper.apart ops p.2.1 q.2.1=true)
def vS :List Oper→List Nat→List Nat
 | [],acc=>acc
 | o::l,acc=>vS l (acc++[ancM acc o.after.toList])
theorem bQ :∀(l:List Oper) (acc:List Nat) (i:Nat),i<acc.length→(vS l acc)[i]?=acc[i]?
 | [],_,_,_=>rfl
 | o::l,acc,i,h=>by simp only[vS];rw[bQ l _ i (by simp;omega),tF2 h]
theorem vY {m:Nat} {e:Ent}:∀{l:List Pt},zE1 ops o m e l=true → ∀p∈l,m.testBit p.1=true∨(wU p.2.2 e=true∧Oper.apart ops p.2.1 o=true)
 | [],_,p,hp=>by cases hp
 | (j,o',e')::l,h,p,hp=>by
  simp only[zE1,iE2,kG2]at h;rcases pE2.1 hp with rfl | hp
  ·exact h.1
  ·exact vY h.2 p hp
theorem iY (hinl:E.inl=[]) {K:St→Option R} {r:R}:∀{l:List Oper} {acc:List Nat} {s:St} {lg:List Pt},kC1 E ev ops l acc s lg K=some r →
  ∃p s',Path ev inl ops p s s'∧K s'=some r∧p.map (fun x=>(x.1,x.2.1))=(List.range' acc.length l.length).zip l ∧
   p.Pairwise (wR1 (fun i=>(vS l acc).getD i 0) ops)∧(∀x∈lg,∀y∈p,wR1 (fun i=>(vS l acc).getD i 0) ops x y)
 | [],acc,s,lg,h=>⟨[],s,rfl,h,rfl,List.Pairwise.nil,fun _ _ _ hy=>by cases hy⟩
 | o::l,acc,s,lg,h=>by
  simp only[kC1]at h;split at h
  ·obtain⟨s1,e,h1,h2⟩:=rV1 (inl:=inl) hinl h;split at h2
   ·rename_i hlog;obtain⟨p,s',h3,h4,h5,h6,h7⟩:=iY hinl h2;have hm:(vS (o::l) acc).getD acc.length 0=ancM acc o.after.toList:=by simp only[vS,oE2];rw[bQ _ _ _ (by simp),yF2 (rE2 _)];simp
    refine⟨(acc.length,o,e)::p,s',⟨s1,h1,h3⟩,h4,?_,?_,?_⟩
    ·simp only[qF2,h5,jE2,iF2,lG2,cI2,List.zip_cons_cons]
    ·exact xF2.2 ⟨fun y hy=>h7 _ nE2 y hy,h6⟩
    ·intro x hx y hy;rcases pE2.1 hy with rfl | hy
     ·have:=vY hlog x hx;unfold wR1;dsimp only;rw[hm];exact this
     ·exact h7 x (mE2 _ hx) y hy
   ·cases h2
  ·cases h
theorem nS {i:Nat}:∀{l:List Edge},mR i l=true → ∀e∈l,Region.binds .any e=true→e.on<i
 | [],_,e,he,_=>by cases he
 | e'::l,h,e,he,hb=>by
  simp only[mR,iE2,kG2,bG2]at h;rcases pE2.1 he with rfl | he
  ·rcases h.1 with h1 | h1
   ·rw[hb]at h1;cases h1
   ·exact rF2 h1
  ·exact nS h.2 e he hb
theorem yT (hinl:E.inl=[]) {K:St→Option R} {r:R}:∀{l:List Oper} {acc:List Nat} {s:St} {lg:List Pt},kC1 E ev ops l acc s lg K=some r → ∀i o,l[i]?=some o→mR (acc.length+i) o.after.toList=true
 | [],_,_,_,_,i,o,hi=>by simp at hi
 | o'::l,acc,s,lg,h,i,o,hi=>by
  simp only[kC1]at h;split at h
  ·rename_i he;obtain⟨s1,e,_,h2⟩:=rV1 (inl:=fun _ _ _ _=>none) hinl h;split at h2
   ·cases i with
    | zero=>simp at hi;subst hi;exact he
    | succ i=>
     have:=yT hinl h2 i o (by simpa using hi);simpa[Nat.add_assoc,Nat.add_comm 1]using this
   ·cases h2
  ·cases h
theorem zD1 {acc:List Nat} {k:Nat}:∀{l:List Edge},(ancM acc l).testBit k=true → ∃e∈l,Region.binds .any e=true∧(k=e.on∨(acc.getD e.on 0).testBit k=true)
 | [],h=>by simp[ancM]at h
 | e::l,h=>by
  simp only[ancM,Nat.testBit_or,kG2]at h;rcases h with h | h
  ·split at h
   ·rename_i hb;simp only[Nat.testBit_or,kG2]at h;refine⟨e,nE2,hb,?_⟩;rcases h with h | h
    ·rw[Nat.testBit_two_pow]at h;exact .inl (by simpa using h:e.on=k).symm
    ·exact .inr h
   ·simp at h
  ·obtain⟨e',h1,h2⟩:=zD1 h;exact⟨e',mE2 _ h1,h2⟩
theorem qX :∀(l:List Oper) (acc:List Nat) (i:Nat) (o:Oper),l[i]?=some o→(∀e∈o.after.toList,Region.binds .any e=true→e.on<acc.length+i) → ∀k,((vS l acc).getD (acc.length+i) 0).testBit k=true →
  ∃e∈o.after.toList,Region.binds .any e=true∧(k=e.on∨((vS l acc).getD e.on 0).testBit k=true)
 | [],_,i,o,h,_,_,_=>by simp at h
 | o'::l,acc,0,o,h,he,k,hk=>by
  simp at h;subst h;simp only[vS,oE2,Nat.add_zero]at hk ⊢;rw[bQ _ _ _ (by simp),yF2 (rE2 _)]at hk;simp at hk;obtain⟨e,h1,h2,h3⟩:=zD1 hk;refine⟨e,by simpa using h1,h2,?_⟩;rcases h3 with h3 | h3
  ·exact .inl h3
  ·have hlt:=he e h1 h2;rw[bQ _ _ _ (by simp;omega),tF2 (by omega)];exact .inr (by simpa[oE2]using h3)
 | o'::l,acc,i+1,o,h,he,k,hk=>by
  simp only[vS]at hk ⊢;have e1:acc.length+(i+1)=(acc++[ancM acc o'.after.toList]).length+i:=by simp;omega
  rw[e1]at hk he;exact qX l _ i o (by simpa using h) he k hk
theorem aA2 {GB:Nat→Prop} {G:World→Prop} {w0:World} {M Z0:Nat→Prop} {γ0:Nat→Value} {m:Nat} (henv:kF P E=true) (hinl:E.inl=[]) (hst:fL GB G) (hG:G w0) (hGB:∀b,GB b→b<w0.heap.size ∧ ¬M b) (hm:m≤1000) (hev:EvOK P GB G E ev)
  {K:St→Option R} {r:R} {i:Nat} {a:Act} {w:World} (hoi:ops[i]?=some o) (h:opsK E ev inl ops [o] s K=some r) (hg:Good w0 M Z0 γ0 m s a w) {Q:Exit→Act→World→Prop}:
  wpOp P ops Q i (fun a w=>∃s',K s'=some r∧Good w0 M Z0 γ0 m s' a w) a w:=by
 have doit:∀s',vM E ev inl s' o K=some r→Good w0 M Z0 γ0 m s' a w→o.wp P a w (fun a w=>∃s',K s'=some r∧Good w0 M Z0 γ0 m s' a w) Q:=
  fun s' h1 h2=>wI1 henv hinl hst hG hGB hm hev h1 h2
 have skip:∀s' v,K (s'.setd o.dst (.lf .un))=some r→Good w0 M Z0 γ0 m s' a w→v=undef → ∃s',K s'=some r∧Good w0 M Z0 γ0 m s' (a.put o.dst v) w:=by rintro s' v h1 ⟨⟨Z,γ,hi,hs,hγ⟩,hb,hd⟩ rfl;exact⟨_,h1,⟨Z,γ,by rw[(iE _ _ _).1];exact hi,by rw[(iE _ _ _).1];exact qM (b:=s'.b) hs rfl,hγ⟩,by rw[(iE _ _ _).2];exact hb,by rw[Go.GV.put_defers];exact hd⟩
 unfold wpOp;simp only[hoi];simp only[opsK]at h
 cases hgd:o.guard with
 | none=>
  rw[hgd]at h;have hw:Region.wanted o (yielded ops a.tmps)=true:=by simp[Region.wanted,hgd]
  rw[if_pos hw];exact .inl (doit s h hg)
 | some jw=>
  obtain⟨j,want⟩:=jw;rw[hgd]at h;dsimp only at h;split at h
  ·rename_i gt hgt;have hy:=qY (tm:=a.tmps) hgt;obtain⟨⟨Z,γ,hi,hs,hγ⟩,hb,hd⟩:=id hg;have hslot:=hs.ok gt;split at h
   ·rename_i hsl;rw[show s.sl.getD gt (.lf .u) = .lf .un from(St.get_def s gt).symm.trans hsl]at hslot;have hv:a.tmps.getD gt undef=undef:=hslot;have hw:Region.wanted o (yielded ops a.tmps)=false:=by simp only[Region.wanted,hgd,hy,hv];rfl
    rw[hw];exact skip s _ h hg rfl
   ·rename_i c hsl;rw[show s.sl.getD gt (.lf .u) = .lf (.v .bool c)from(St.get_def s gt).symm.trans hsl]at hslot;have hv:∀c:Bool,SlotOK w Z γ s.ob (.lf (.v .bool c)) (a.tmps.getD gt undef)→a.tmps.getD gt undef = .bool c:=by intro c h;simpa only[SlotOK,LfOK,Ty.Rep,List.cons.injEq,and_true]using h
    have hv:=hv c hslot;have hw:Region.wanted o (yielded ops a.tmps)=(some (show Bool from c)==some want):=by simp only[Region.wanted,hgd,hy,hv]
    have hgs:Good w0 M Z0 γ0 m (s.set gt (.lf (.v .bool c))) a w:=by rw[St.set_def];exact⟨⟨Z,γ,hi,nV hs hslot,hγ⟩,hb,hd⟩
    cases c with
    | true=>
     cases want with
     | true=>rw[if_pos (by rw[hw];rfl)];exact .inl (doit _ h hgs)
     | false=>rw[if_neg (by rw[hw];decide)];exact skip _ _ h hgs rfl
    | false=>
     cases want with
     | true=>rw[if_neg (by rw[hw];decide)];exact skip _ _ h hgs rfl
     | false=>rw[if_pos (by rw[hw];rfl)];exact .inl (doit _ h hgs)
   ·cases h
  ·cases h
theorem kB2 {GB:Nat→Prop} {G:World→Prop} {w0:World} {M Z0:Nat→Prop} {γ0:Nat→Value} {m:Nat} (henv:kF P E=true) (hinl:E.inl=[]) (hst:fL GB G) (hG:G w0) (hGB:∀b,GB b→b<w0.heap.size ∧ ¬M b) (hm:m≤1000) (hev:EvOK P GB G E ev)
  (r:R) {mk:Nat→Nat} (hmk:∀i o,ops[i]?=some o → ∀k,(mk i).testBit k=true → ∃e∈o.after.toList,Region.binds .any e=true∧(k=e.on∨(mk e.on).testBit k=true))
  (hed:∀i o,ops[i]?=some o → ∀e∈o.after.toList,Region.binds .any e=true→e.on<i) {sn:St} {Q:Exit→Act→World→Prop} (hQ:∀a w,Good w0 M Z0 γ0 m sn a w→Q .normal a w):
  ∀(n:Nat) (p:List Pt),p.length=n → ∀(listed:Array Bool) (s:St) (a:Act) (w:World),listed.size=ops.size→Path ev inl ops p s sn→p.Pairwise (wR1 mk ops)→p.Pairwise (fun x y=>x.1<y.1)→(∀x∈p,ops[x.1]?=some x.2.1) →
   (∀i,i<ops.size→(listed.getD i false=false↔i∈p.map (·.1)))→(∀i,i<ops.size→listed.getD i false=true → ∀k,(mk i).testBit k=true→listed.getD k false=true) →
   Good w0 M Z0 γ0 m s a w→wpAny P .any ops Q n listed a w:=by
 have key:∀(listed:Array Bool),listed.size=ops.size → ∀i,i<ops.size→listed.getD i true=listed.getD i false:=by intro listed hsz i hi;simp[iG2,hsz,hi]
 intro n
 induction n with
 | zero=>
  intro p hp listed s a w hsz hpath _ _ _ hlist _ hg;have:p=[]:=aF2 hp;subst this;have e:sn=s:=hpath;subst e;refine⟨?_,hQ a w hg⟩;refine List.eq_nil_iff_forall_not_mem.2 fun j hj=>?_
  obtain⟨h0,o,ho,_⟩:=mem_ready.1 hj;have hlt:=(eG2.1 ho).1;rw[key listed hsz j hlt]at h0;have:=(hlist j hlt).1 h0;simp at this
 | succ n ih=>
  intro p hp listed s a w hsz hpath hpw hsort hops hlist hdc hg;refine⟨fun hr=>?_,fun i hi=>?_⟩
  ·exfalso
   cases p with
   | nil=>simp at hp
   | cons x p=>
    have hx:=hops x nE2;have hlt:=(eG2.1 hx).1;have:x.1∈Region.ready .any ops listed:=by
     refine mem_ready.2 ⟨?_,x.2.1,hx,fun e he hb=>?_⟩
     ·rw[key listed hsz _ hlt];exact(hlist x.1 hlt).2 (by simp)
     ·have h1:=hed x.1 x.2.1 hx e (by simpa using he) hb
      cases hl:listed.getD e.on false with
      | true=>rfl
      | false=>
       have h2:=(hlist e.on (by omega)).1 hl;simp only[qF2,pE2,kF2]at h2;rcases h2 with h2 | ⟨y,hy,h2⟩
       ·omega
       ·have:=(xF2.1 hsort).1 y hy;omega
    rw[hr]at this;cases this
  ·obtain⟨h0,o,ho,hall⟩:=mem_ready.1 hi;have hlt:=(eG2.1 ho).1;rw[key listed hsz i hlt]at h0;have hmem:=(hlist i hlt).1 h0;obtain⟨x,hx,rfl⟩:=kF2.1 hmem;obtain⟨l,l',rfl⟩:=List.append_of_mem hx;have hox:x.2.1=o:=oF2 ((hops x hx).symm.trans ho);have hanc:∀k,(mk x.1).testBit k=true→listed.getD k false=true:=by
    intro k hk;obtain⟨e,he,hb,h1⟩:=hmk x.1 o ho k hk;have h2:=hall e (by simpa using he) hb;rcases h1 with rfl | h1
    ·exact h2
    ·have h3:=hed x.1 o ho e he hb;exact hdc e.on (by omega) h2 k h1
   obtain⟨hp1,hp2,hp3⟩:=aG2.1 hpw;obtain⟨hs1,hs2,hs3⟩:=aG2.1 hsort;have hfree:∀y∈l,wU y.2.2 x.2.2=true∧Oper.apart ops y.2.1 x.2.1=true:=by
    intro y hy;rcases hp3 y hy x nE2 with h1 | h1
    ·exfalso;have h2:=hanc y.1 h1;have h3:=hops y (bF2 _ hy);have h4:=(hlist y.1 (eG2.1 h3).1).2 (kF2.2 ⟨y,bF2 _ hy,rfl⟩);rw[h2]at h4;cases h4
    ·exact h1
   obtain⟨s1,htr,hrest⟩:=pC1 hfree hpath;have hto:=htr.to;rw[hox]at hto
   classical
   have h1:opsK E ev inl ops [o] s (fun s'=>if s'=s1 then some r else none)=some r:=by rw[hto,if_pos rfl]
   refine wpOp_mono (fun a' w' hh=>?_) (aA2 (Q:=Q) henv hinl hst hG hGB hm hev ho h1 hg);obtain⟨s',h2,h3⟩:=hh;have:s'=s1:=by
    by_cases e:s'=s1
    ·exact e
    ·rw[if_neg e]at h2;cases h2
   subst this;have hnd:∀y∈l++l',y.1≠x.1:=by
    intro y hy e;rcases xE2.1 hy with hy | hy
    ·have:=hs3 y hy x nE2;omega
    ·have:=(xF2.1 hs2).1 y hy;omega
   have hset:∀j,(listed.setIfInBounds x.1 true).getD j false=if x.1=j then true else listed.getD j false:=by
    intro j;simp only[iG2,mH2];by_cases hj:x.1=j
    ·subst hj;simp[hsz,hlt]
    ·simp[hj]
   refine ih (l++l') (by simp at hp ⊢;omega) _ s' a' w' (by simpa using hsz) hrest ?_ ?_ (fun y hy=>hops y ?_) (fun j hj=>?_) (fun j hj hl k hk=>?_) h3
   ·exact aG2.2 ⟨hp1,(xF2.1 hp2).2,fun y hy z hz=>hp3 y hy z (mE2 _ hz)⟩
   ·exact aG2.2 ⟨hs1,(xF2.1 hs2).2,fun y hy z hz=>hs3 y hy z (mE2 _ hz)⟩
   ·rcases xE2.1 hy with hy | hy
    ·exact bF2 _ hy
    ·exact tE2 _ (mE2 _ hy)
   ·rw[hset];by_cases hjx:x.1=j
    ·subst hjx;simp only[if_true];constructor
     ·intro h;cases h
     ·intro h;obtain⟨y,hy,e⟩:=kF2.1 h;exact absurd e (hnd y hy)
    ·rw[if_neg hjx,hlist j hj];simp only[mF2,qF2,xE2,pE2];constructor
     ·rintro(h | h | h)
      ·exact .inl h
      ·exact absurd h.symm hjx
      ·exact .inr h
     ·rintro(h | h)
      ·exact .inl h
      ·exact .inr (.inr h)
   ·rw[hset]at hl ⊢;split
    ·rfl
    ·by_cases hjx:x.1=j
     ·subst hjx;exact hanc k hk
     ·rw[if_neg hjx]at hl;exact hdc j hj hl k hk
theorem pV {R:Type} {x y:Option R} {r:R} (h:x=some r→y=some r):∀g,iQ g x=some r→iQ g y=some r
 | [],q=>h q
 | b::l,q=>by
  cases b with
  | true=>exact pV h l q
  | false=>cases q
theorem zJ1 {R:Type} {K K':St→Ent→Option R} {r:R} (hK:∀s e,K s e=some r→K' s e=some r) {s:St} {o:Oper} (h:sR E ev s o K=some r):sR E ev s o K'=some r:=by
 unfold sR at h ⊢
 cases hs:step E s o with
 | none=>rw[hs]at h;cases h
 | some p=>
  obtain⟨s1,out⟩:=p;rw[hs]at h;dsimp only at h ⊢;by_cases hb:Nat.beq s1.b s.b=true
  ·rw[if_pos hb]at h ⊢
   cases out with
   | go g x ob=>
    dsimp only at h ⊢;by_cases hl:oN s1.ob s.ob=true
    ·rw[if_pos hl]at h ⊢;exact pV (hK _ _) g h
    ·rw[if_neg hl]at h;cases h
   | br c x y=>cases c <;> exact hK _ _ h
   | call f x k=>
    dsimp only at h ⊢;by_cases hl:mV E s o false=true
    ·rw[if_pos hl]at h ⊢;rw[lF2]at h ⊢;obtain⟨r',h1,h2⟩:=h;refine⟨r',h1,?_⟩
     cases hk:k r' with
     | none=>rw[hk]at h2;cases h2
     | some p=>rw[hk]at h2;exact hK _ _ h2
    ·rw[if_neg hl]at h;cases h
   | callN f x k q=>cases h
   | inl f x=>cases h
  ·rw[if_neg hb]at h;cases h
theorem nU1 {R:Type} {K K':St→Ent→Option R} {r:R} (hK:∀s e,K s e=some r→K' s e=some r) {s:St} {o:Oper} (h:opE E ev ops o s K=some r):opE E ev ops o s K'=some r:=by
 have hs:=fun {s:St} (h:sR E ev s o K=some r)=>zJ1 hK h
 simp only[opE]at h ⊢
 cases hg:o.guard with
 | none=>rw[hg]at h;exact hs h
 | some jw=>
  obtain⟨j,want⟩:=jw;rw[hg]at h;dsimp only at h ⊢;cases hd:(ops[j]?).bind (·.dst)with
  | none=>rw[hd]at h;cases h
  | some g=>
   rw[hd]at h;dsimp only at h ⊢;split at h
   ·exact hK _ _ h
   ·rename_i c _;cases c <;> cases want <;> first | exact hs h | exact hK _ _ h
   ·cases h
theorem zI1 {o:Oper} {m:Nat} {e:Ent}:∀{lg:List (Nat×Oper×Ent)},(∀x∈lg,m.testBit x.1=true∨Oper.apart ops x.2.1 o=true)→(∀x∈lg,m.testBit x.1=true∨wU x.2.2 e=true)→zE1 ops o m e lg=true
 | [],_,_=>rfl
 | (j,o',e')::l,h1,h2=>by
  simp only[zE1,iE2,kG2];refine⟨?_,zI1 (fun x hx=>h1 x (mE2 _ hx)) (fun x hx=>h2 x (mE2 _ hx))⟩;rcases h1 _ nE2 with h | h
  ·exact .inl h
  ·rcases h2 _ nE2 with h' | h'
   ·exact .inl h'
   ·exact .inr ⟨h',h⟩
theorem fM1 {R:Type} {K:St→Option R} {r:R}:∀{l:List Oper} {acc:List Nat} {s:St} {lg:List (Nat×Oper×Ent)} {hw:Bool} {pv:List (Nat×Oper)},pv=lg.map (fun x=>(x.1,x.2.1))→(hw=false → ∀x∈lg,x.2.2.w=false)→aI1 ops l acc pv=true →
  fG1 E ev ops l acc s lg hw K=some r→kC1 E ev ops l acc s lg K=some r
 | [],_,_,_,_,_,_,_,_,h=>h
 | o::l,acc,s,lg,hw,pv,hpv,hhw,hst,h=>by
  simp only[aI1,iE2]at hst;obtain⟨⟨h1,h2⟩,h3⟩:=hst;simp only[fG1]at h;simp only[kC1];rw[if_pos h1];refine nU1 (fun s' e hx=>?_) h;split at hx
  ·rename_i hdyn;have hlog:zE1 ops o (ancM acc o.after.toList) e lg=true:=by
    refine zI1 (fun x hx=>?_) (fun x hx=>?_)
    ·subst hpv;have:=pG2.1 h2 (x.1,x.2.1) (kF2.2 ⟨x,hx,rfl⟩);simpa using this
    ·unfold lZ1 at hdyn;rw[kG2]at hdyn;rcases hdyn with hdyn | hdyn
     ·rw[iE2,bG2,bG2]at hdyn;refine .inr ?_;unfold wU;rw[hhw hdyn.2 x hx,hdyn.1];rfl
     ·have:=pG2.1 hdyn x hx;simpa using this
   rw[if_pos hlog];refine fM1 (pv:=(acc.length,o)::pv) (by rw[hpv];rfl) (fun hq x hx=>?_) h3 hx;rw[wH2]at hq;rcases pE2.1 hx with e1 | hx
   ·rw[e1];exact hq.2
   ·exact hhw hq.1 x hx
  ·cases hx
theorem qW1 {R:Type} {K:St→Option R} {r:R} {s:St} (h:jG1 E ev ops s K=some r):kC1 E ev ops ops.toList [] s [] K=some r:=by
 unfold jG1 at h;split at h
 ·rename_i hst;exact fM1 rfl (fun _ x hx=>absurd hx (by simp)) hst h
 ·cases h
theorem xL1 {GB:Nat→Prop} {G:World→Prop} {w0:World} {M Z0:Nat→Prop} {γ0:Nat→Value} {m:Nat} (henv:kF P E=true) (hmix:P.follows .mixedOrders=true) (hinl:E.inl=[]) (hst:fL GB G) (hG:G w0) (hGB:∀b,GB b→b<w0.heap.size ∧ ¬M b) (hm:m≤1000) (hev:EvOK P GB G E ev)
  {K:St→Option R} {r:R} {id:Nat} {a:Act} {w:World} (h:jG1 E ev ops s K=some r) (hg:Good w0 M Z0 γ0 m s a w):
  (Code.region id ops true).wp P (fun e a w=>e = .normal ∧ ∃s',K s'=some r∧Good w0 M Z0 γ0 m s' a w) a w:=by
 have h:=qW1 h;obtain⟨p,sn,h1,h2,h3,h4,_⟩:=iY (inl:=fun _ _ _ _=>none) hinl h;have hedges:=yT hinl h;have hlen:p.length=ops.size:=by have:=congrArg List.length h3;simpa using this
 have hget:∀x∈p,ops[x.1]?=some x.2.1:=by intro x hx;have h5:(x.1,x.2.1)∈p.map (fun x=>(x.1,x.2.1)):=kF2.2 ⟨x,hx,rfl⟩;rw[h3]at h5;obtain⟨j,hj⟩:=List.getElem?_of_mem h5;rw[List.getElem?_zip_eq_some]at hj;obtain⟨hj1,hj2⟩:=hj;have hjl:=(sF2.1 hj2).1;rw[List.getElem?_range' hjl]at hj1;simp at hj1;rw[←hj1];simpa using hj2
 have hidx:p.map (·.1)=List.range' 0 ops.size:=by have:=congrArg (List.map Prod.fst) h3;rw[List.map_map]at this;rw[show(p.map (·.1))=p.map (Prod.fst∘fun x=>(x.1,x.2.1))from rfl,this,List.map_fst_zip (by simp)];simp
 have hed:∀i o,ops[i]?=some o → ∀e∈o.after.toList,Region.binds .any e=true→e.on<i:=by intro i o ho e he hb;have:=hedges i o (by simpa using ho);simp only[lG2,xG2]at this;exact nS this e he hb
 refine wp_region_any hmix ?_;have hg':Good w0 M Z0 γ0 m s a { w with drawn:=w.drawn+1 }:=by
  obtain⟨⟨Z,γ,hi,hs,hγ⟩,hb,hd⟩:=hg;have hst:Stay w { w with drawn:=w.drawn+1 } Z Z:=Stay.of_block fun k hk=>⟨hk,rfl⟩
  exact⟨⟨Z,γ,⟨⟨hi.frm.os,hi.frm.tape,hi.frm.output,hi.frm.size,hi.frm.block⟩,hi.zlt,hi.zold,fun n o ho=>ObOK.keep (hi.obs n o ho) hst (fun _ _=>rfl) rfl (fun _ _=>rfl),hi.disj,hi.own⟩,
   ⟨hs.len,fun i=>SlotOK.keep hst (hs.ok i) fun n _=>⟨rfl,fun E t xs hx=>⟨E,xs,hx,rfl⟩⟩⟩,hγ⟩,hb,hd⟩
 rw[←hlen];refine kB2 (mk:=fun i=>(vS ops.toList []).getD i 0) henv hinl hst hG hGB hm hev r (fun i o ho k hk=>?_) hed (sn:=sn) (fun a w hg=>⟨rfl,sn,h2,hg⟩) p.length p rfl _ s a _ (by simp[hlen]) h1 h4 ?_ hget (fun i hi=>?_) (fun i hi hl=>?_) hg'
 ·have:=qX ops.toList [] i o (by simpa using ho) (fun e he hb=>by simpa using hed i o ho e he hb) k (by simpa using hk);simpa using this
 ·have:(p.map (·.1)).Pairwise (· < ·):=by rw[hidx];exact List.pairwise_lt_range' 
  exact List.pairwise_map.1 this
 ·rw[hidx];simp[hi,hlen]
 ·simp[hlen,hi]at hl
end
inductive ItOK :List It→List Item→Prop
 | nil:ItOK [] []
 | code {l k x a}:ItOK l k→ItOK (.c x a::l) (.code x::k)
 | loop {l k y a}:ItOK l k→ItOK (.c (.loop y) a::l) (.inLoop y::k)
 | endB {l k id}:ItOK l k→ItOK (.endB id::l) (.inBlock id::k)
def Pos (T:List (Nat×List It)):List It→Prop
 | []=>True
 | .c x a::l=>(∀p∈places x a l,p∈T)∧a.wf=true∧Pos T l
 | .endB _::l=>Pos T l
theorem rV {id:Nat}:∀{l l':List It} {k:List Item},ItOK l k→vW id l=some l' → ∃k',exitTo id k=some k'∧ItOK l' k'
 | _,_,_,.nil,h=>by cases h
 | _,_,_,.code h0,h=>by simp only[vW]at h;obtain⟨k',h1,h2⟩:=rV h0 h;exact⟨k',by simpa[exitTo]using h1,h2⟩
 | _,_,_,.loop h0,h=>by simp only[vW]at h;obtain⟨k',h1,h2⟩:=rV h0 h;exact⟨k',by simpa[exitTo]using h1,h2⟩
 | _,_,_,.endB (l:=l) (k:=k) (id:=j) h0,h=>by
  simp only[vW]at h;by_cases hj:Nat.beq j id=true
  ·rw[if_pos hj]at h;cases h;exact⟨k,by simp[exitTo,beqt.1 hj],h0⟩
  ·rw[if_neg hj]at h;obtain⟨k',h1,h2⟩:=rV h0 h;have hne:¬j=id:=fun e=>hj (beqt.2 e)
   exact⟨k',by simp[exitTo,hne,h1],h2⟩
theorem wT {T:List (Nat×List It)} {id:Nat}:∀{l l':List It},Pos T l→vW id l=some l'→Pos T l'
 | [],_,_,h=>by cases h
 | .c x a::l,_,hp,h=>wT (l:=l) hp.2.2 (by simpa only[vW]using h)
 | .endB j::l,_,hp,h=>by
  simp only[vW]at h;split at h
  ·cases h;exact hp
  ·exact wT (l:=l) hp h
section
variable {P : Program} {E : Env} {GB : Nat → Prop} {G : World → Prop} {w0 : World} {M Z0 : Nat → Prop} {γ0 : Nat → Value} {m : Nat} {b : Frame} {cs : List Frame}
def Ends (P:Program) (b:Frame) (cs:List Frame) (Post:Act→World→Prop) (k:List Item) (a:Act) (w:World):Prop:=
 ∃a' w' todo,Steps P (lone (b.at a k) cs w) (lone { b.at a' todo with mode:=.returning } cs w')∧Post a' w'
theorem Ends.head {Post:Act→World→Prop} {k k':List Item} {a:Act} {w:World} (h:Go.step P (lone (b.at a k) cs w) = .next (lone (b.at a k') cs w)) (h':Ends P b cs Post k' a w):Ends P b cs Post k a w:=by obtain⟨a',w',todo,h1,h2⟩:=h';exact⟨a',w',todo,.head h h1,h2⟩
theorem Ends.steps {Post:Act→World→Prop} {k k':List Item} {a a1:Act} {w w1:World} (h:Steps P (lone (b.at a k) cs w) (lone (b.at a1 k') cs w1)) (h':Ends P b cs Post k' a1 w1):Ends P b cs Post k a w:=by obtain⟨a',w',todo,h1,h2⟩:=h';exact⟨a',w',todo,h.trans h1,h2⟩
theorem rO1 (henv:kF P E=true) (hinl:E.inl=[]) (hmix:P.follows .mixedOrders=true) (hst:fL GB G) (hG:G w0) (hGB:∀b,GB b→b<w0.heap.size ∧ ¬M b) (hm:m≤1000) {R:Type} {ev:Ev E} (hev:EvOK P GB G E ev) {mm:Nat}
  {go:Nat→St→Option R} {fi:St→Option R} {r:R} {Post:Act→World→Prop} {T:List (Nat×List It)}
  (hfi:∀s a w,fi s=some r→Good w0 M Z0 γ0 m s a w→Post a w)
  (hgo:∀i s l,(i,l)∈T→go i s=some r→Pos T l → ∀a w,Good w0 M Z0 γ0 m s a w → ∀k,ItOK l k→Ends P b cs Post k a w)
  (hpl:∀i l,(i,l)∈T→Pos T l) (hat:∀s k s' a w,qB1 s mm k=some s'→Good w0 M Z0 γ0 m s a w→Good w0 M Z0 γ0 m s' a w):
  ∀(n:Nat) (l:List It) (k:List Item) (s:St) (a:Act) (w:World),run E ev mm n go fi l s=some r→ItOK l k→Pos T l→Good w0 M Z0 γ0 m s a w→Ends P b cs Post k a w
 | 0,l,k,s,a,w,h,_,_,_=>by cases l <;> cases h
 | n+1,[],k,s,a,w,h,hk,hp,hg=>by cases hk;exact⟨a,w,[],.one step_end,hfi s a w h hg⟩
 | n+1,.endB id::l,k,s,a,w,h,hk,hp,hg=>by
  cases hk with
  | endB hk=>exact .head step_inBlock (rO1 henv hinl hmix hst hG hGB hm hev hfi hgo hpl hat n l _ s a w h hk hp hg)
 | n+1,.c x an::l,k,s,a,w,h,hk,hp,hg=>by
  have ih:=rO1 henv hinl hmix hst hG hGB hm hev hfi hgo hpl hat n;obtain⟨hp1,hwf,hp2⟩:=hp
  cases an with
  | at_ i kp an=>
   simp only[run]at h;split at h
   ·rename_i s' hs';have hg':=hat s kp s' a w hs' hg
    cases x with
    | loop y=>
     have hmem:(i,.c y an :: .c (.loop y) (.at_ i kp an)::l)∈T:=hp1 _ (by simp only[places];exact nE2)
     cases hk with
     | code hk=>exact .head step_loop (hgo i s' _ hmem h (hpl _ _ hmem) a w hg' _ (.code (.loop hk)))
     | loop hk=>exact .head step_inLoop (hgo i s' _ hmem h (hpl _ _ hmem) a w hg' _ (.code (.loop hk)))
    | _=>
     cases hk with
     | code hk=>
      have hmem:=hp1 (i,.c _ an::l) (by simp only[places];exact nE2);exact hgo i s' _ hmem h (hpl _ _ hmem) a w hg' _ (.code hk)
   ·cases h
  | no=>
   simp only[run]at h
   cases x with
   | skip=>cases hk with | code hk=>exact .head step_skip (ih l _ s a w h hk hp2 hg)
   | seq x y=>
    cases hk with
    | code hk=>exact .head step_seq (ih _ _ s a w h (.code (.code hk)) ⟨fun p hp=>hp1 p (by simp only[places];exact bF2 _ hp),rfl,fun p hp=>hp1 p (by simp only[places];exact tE2 _ hp),rfl,hp2⟩ hg)
   | cond c x y=>
    cases hk with
    | code hk=>
     have hx:Pos T (.c x (Ann.l .no)::l):=⟨fun p hp=>hp1 p (by simp only[places];exact bF2 _ hp),rfl,hp2⟩
     have hy:Pos T (.c y (Ann.r .no)::l):=⟨fun p hp=>hp1 p (by simp only[places];exact tE2 _ hp),rfl,hp2⟩
     dsimp only at h;split at h
     ·rename_i bv hc;obtain⟨⟨Z,γ,hi,hs,hγ⟩,hb,hd⟩:=id hg;have hcv:=xP hc hs
      cases c with
      | tmp t=>
       have hgs:Good w0 M Z0 γ0 m (s.set t (.lf (.v .bool bv))) a w:=⟨⟨Z,γ,hi,vP hs (by
        have h1:a.tmps.getD t undef = .bool bv:=hcv
        rw[h1];exact rfl),hγ⟩,hb,hd⟩
       cases bv with
       | true=>exact .head (step_cond (t:=true) hcv) (ih _ _ _ a w h (.code hk) hx hgs)
       | false=>exact .head (step_cond (t:=false) hcv) (ih _ _ _ a w h (.code hk) hy hgs)
      | const v=>
       cases bv with
       | true=>exact .head (step_cond (t:=true) hcv) (ih _ _ _ a w h (.code hk) hx hg)
       | false=>exact .head (step_cond (t:=false) hcv) (ih _ _ _ a w h (.code hk) hy hg)
      | global g=>simp[St.opnd]at hc
      | func f=>simp[St.opnd]at hc
     ·cases h
   | block id x=>
    cases hk with
    | code hk=>exact .head step_block (ih _ _ s a w h (.code (.endB hk)) ⟨fun p hp=>hp1 p (by simp only[places];exact hp),rfl,hp2⟩ hg)
   | exit id=>
    cases hk with
    | code hk=>
     dsimp only at h;split at h
     ·rename_i l' hl';obtain⟨k',h1,h2⟩:=rV hk hl';exact .head (step_exit h1) (ih _ _ s a w h h2 (wT hp2 hl') hg)
     ·cases h
   | ret=>
    cases hk with
    | code hk=>exact⟨a,w,_,.one step_ret,hfi s a w h hg⟩
   | region id ops draw=>
    cases hk with
    | code hk=>
     dsimp only at h
     cases draw with
     | true=>
      rw[if_pos rfl]at h;obtain⟨e,a',w',⟨rfl,s',hs',hg'⟩,harr⟩:=xL1 (id:=id) henv hmix hinl hst hG hGB hm hev h hg b _ cs;exact .steps harr (ih _ _ s' a' w' hs' hk hp2 hg')
     | false=>
      rw[if_neg (by decide)]at h;have hw:=kF1 henv hinl hst hG hGB hm hev ops.toList 0 s a w (by simp) (by simp) h hg;rw[wE2,←List.range_eq_range']at hw;obtain⟨e,a',w',⟨rfl,s',hs',hg'⟩,harr⟩:=wp_region (id:=id) hw b _ cs;exact .steps harr (ih _ _ s' a' w' hs' hk hp2 hg')
   | _=>cases h
  | two a1 a2=>
   simp only[Ann.wf,iE2]at hwf;simp only[run]at h
   cases x with
   | skip=>cases hk with | code hk=>exact .head step_skip (ih l _ s a w h hk hp2 hg)
   | seq x y=>
    cases hk with
    | code hk=>exact .head step_seq (ih _ _ s a w h (.code (.code hk)) ⟨fun p hp=>hp1 p (by simp only[places];exact bF2 _ hp),hwf.1,fun p hp=>hp1 p (by simp only[places];exact tE2 _ hp),hwf.2,hp2⟩ hg)
   | cond c x y=>
    cases hk with
    | code hk=>
     have hx:Pos T (.c x (Ann.l (.two a1 a2))::l):=⟨fun p hp=>hp1 p (by simp only[places];exact bF2 _ hp),hwf.1,hp2⟩
     have hy:Pos T (.c y (Ann.r (.two a1 a2))::l):=⟨fun p hp=>hp1 p (by simp only[places];exact tE2 _ hp),hwf.2,hp2⟩
     dsimp only at h;split at h
     ·rename_i bv hc;obtain⟨⟨Z,γ,hi,hs,hγ⟩,hb,hd⟩:=id hg;have hcv:=xP hc hs
      cases c with
      | tmp t=>
       have hgs:Good w0 M Z0 γ0 m (s.set t (.lf (.v .bool bv))) a w:=⟨⟨Z,γ,hi,vP hs (by
        have h1:a.tmps.getD t undef = .bool bv:=hcv
        rw[h1];exact rfl),hγ⟩,hb,hd⟩
       cases bv with
       | true=>exact .head (step_cond (t:=true) hcv) (ih _ _ _ a w h (.code hk) hx hgs)
       | false=>exact .head (step_cond (t:=false) hcv) (ih _ _ _ a w h (.code hk) hy hgs)
      | const v=>
       cases bv with
       | true=>exact .head (step_cond (t:=true) hcv) (ih _ _ _ a w h (.code hk) hx hg)
       | false=>exact .head (step_cond (t:=false) hcv) (ih _ _ _ a w h (.code hk) hy hg)
      | global g=>simp[St.opnd]at hc
      | func f=>simp[St.opnd]at hc
     ·cases h
   | block id x=>
    cases hk with
    | code hk=>exact .head step_block (ih _ _ s a w h (.code (.endB hk)) ⟨fun p hp=>hp1 p (by simp only[places];exact hp),hwf.1,hp2⟩ hg)
   | exit id=>
    cases hk with
    | code hk=>
     dsimp only at h;split at h
     ·rename_i l' hl';obtain⟨k',h1,h2⟩:=rV hk hl';exact .head (step_exit h1) (ih _ _ s a w h h2 (wT hp2 hl') hg)
     ·cases h
   | ret=>
    cases hk with
    | code hk=>exact⟨a,w,_,.one step_ret,hfi s a w h hg⟩
   | region id ops draw=>
    cases hk with
    | code hk=>
     dsimp only at h
     cases draw with
     | true=>
      rw[if_pos rfl]at h;obtain⟨e,a',w',⟨rfl,s',hs',hg'⟩,harr⟩:=xL1 (id:=id) henv hmix hinl hst hG hGB hm hev h hg b _ cs;exact .steps harr (ih _ _ s' a' w' hs' hk hp2 hg')
     | false=>
      rw[if_neg (by decide)]at h;have hw:=kF1 henv hinl hst hG hGB hm hev ops.toList 0 s a w (by simp) (by simp) h hg;rw[wE2,←List.range_eq_range']at hw;obtain⟨e,a',w',⟨rfl,s',hs',hg'⟩,harr⟩:=wp_region (id:=id) hw b _ cs;exact .steps harr (ih _ _ s' a' w' hs' hk hp2 hg')
   | _=>cases h
theorem wf_l {a:Ann} (h:a.wf=true):a.l.wf=true:=by
 cases a with
 | no=>rfl
 | two a b=>simp only[Ann.wf,iE2]at h;exact h.1
 | at_ i k a=>exact h
theorem wf_r {a:Ann} (h:a.wf=true):a.r.wf=true:=by
 cases a with
 | no=>rfl
 | two a b=>simp only[Ann.wf,iE2]at h;exact h.2
 | at_ i k a=>rfl
def Ann.isAt :Ann→Bool
 | .at_ _ _ _=>true
 | _=>false
theorem rX {x y:Code} {a:Ann} {l:List It} (h:a.isAt=false):places (.seq x y) a l=places x a.l (.c y a.r::l)++places y a.r l:=by cases a <;> first | rfl | cases h
theorem xV {c:Operand} {x y:Code} {a:Ann} {l:List It} (h:a.isAt=false):places (.cond c x y) a l=places x a.l l++places y a.r l:=by cases a <;> first | rfl | cases h
theorem bS {id:Nat} {x:Code} {a:Ann} {l:List It} (h:a.isAt=false):places (.block id x) a l=places x a.l (.endB id::l):=by cases a <;> first | rfl | cases h
theorem yN1 {i:Nat} {k:List (Nat×Keep)} {a:Ann} (h:(Ann.at_ i k a).wf=true):a.isAt=false∧a.wf=true:=by
 simp only[Ann.wf,iE2]at h;refine⟨?_,h.2⟩
 cases a with
 | at_ _ _ _=>cases h.1
 | _=>rfl
theorem hK1 {T:List (Nat×List It)}:∀(x:Code) (a:Ann) (l:List It),a.wf=true→(∀p∈places x a l,p∈T)→Pos T l → ∀i l',(i,l')∈places x a l→Pos T l':=by
 intro x
 induction x with
 | seq x y ihx ihy=>
  intro a l hwf hT hl i l' hm;have body:∀b:Ann,b.wf=true→b.isAt=false→(∀p∈places (.seq x y) b l,p∈T)→(i,l')∈places (.seq x y) b l→Pos T l':=by
   intro b hb hna hT hm;rw[rX hna]at hT hm;have hy:Pos T (.c y b.r::l):=⟨fun p hp=>hT p (tE2 _ hp),wf_r hb,hl⟩
   rcases xE2.1 hm with hm | hm
   ·exact ihx b.l _ (wf_l hb) (fun p hp=>hT p (bF2 _ hp)) hy i l' hm
   ·exact ihy b.r l (wf_r hb) (fun p hp=>hT p (tE2 _ hp)) hl i l' hm
  cases a with
  | at_ j k b=>
   obtain⟨hna,hb⟩:=yN1 hwf;have e:places (.seq x y) (.at_ j k b) l=(j,.c (.seq x y) b::l)::places (.seq x y) b l:=by rw[rX hna];rfl
   rw[e]at hT hm;rcases pE2.1 hm with hm | hm
   ·cases hm;exact⟨fun p hp=>hT p (mE2 _ hp),hb,hl⟩
   ·exact body b hb hna (fun p hp=>hT p (mE2 _ hp)) hm
  | no=>exact body _ hwf rfl hT hm
  | two a1 a2=>exact body _ hwf rfl hT hm
 | cond c x y ihx ihy=>
  intro a l hwf hT hl i l' hm;have body:∀b:Ann,b.wf=true→b.isAt=false→(∀p∈places (.cond c x y) b l,p∈T)→(i,l')∈places (.cond c x y) b l→Pos T l':=by
   intro b hb hna hT hm;rw[xV hna]at hT hm;rcases xE2.1 hm with hm | hm
   ·exact ihx b.l _ (wf_l hb) (fun p hp=>hT p (bF2 _ hp)) hl i l' hm
   ·exact ihy b.r l (wf_r hb) (fun p hp=>hT p (tE2 _ hp)) hl i l' hm
  cases a with
  | at_ j k b=>
   obtain⟨hna,hb⟩:=yN1 hwf;have e:places (.cond c x y) (.at_ j k b) l=(j,.c (.cond c x y) b::l)::places (.cond c x y) b l:=by rw[xV hna];rfl
   rw[e]at hT hm;rcases pE2.1 hm with hm | hm
   ·cases hm;exact⟨fun p hp=>hT p (mE2 _ hp),hb,hl⟩
   ·exact body b hb hna (fun p hp=>hT p (mE2 _ hp)) hm
  | no=>exact body _ hwf rfl hT hm
  | two a1 a2=>exact body _ hwf rfl hT hm
 | block id x ihx=>
  intro a l hwf hT hl i l' hm;have body:∀b:Ann,b.wf=true→b.isAt=false→(∀p∈places (.block id x) b l,p∈T)→(i,l')∈places (.block id x) b l→Pos T l':=by intro b hb hna hT hm;rw[bS hna]at hT hm;exact ihx b.l _ (wf_l hb) hT hl i l' hm
  cases a with
  | at_ j k b=>
   obtain⟨hna,hb⟩:=yN1 hwf;have e:places (.block id x) (.at_ j k b) l=(j,.c (.block id x) b::l)::places (.block id x) b l:=by rw[bS hna];rfl
   rw[e]at hT hm;rcases pE2.1 hm with hm | hm
   ·cases hm;exact⟨fun p hp=>hT p (mE2 _ hp),hb,hl⟩
   ·exact body b hb hna (fun p hp=>hT p (mE2 _ hp)) hm
  | no=>exact body _ hwf rfl hT hm
  | two a1 a2=>exact body _ hwf rfl hT hm
 | loop x ihx=>
  intro a l hwf hT hl i l' hm
  cases a with
  | at_ j k b=>
   obtain⟨hna,hb⟩:=yN1 hwf;have e:places (.loop x) (.at_ j k b) l=(j,.c x b :: .c (.loop x) (.at_ j k b)::l)::places x b (.c (.loop x) (.at_ j k b)::l):=rfl;have hp:Pos T (.c (.loop x) (.at_ j k b)::l):=⟨hT,hwf,hl⟩
   rw[e]at hT hm;rcases pE2.1 hm with hm | hm
   ·cases hm;exact⟨fun p hp=>hT p (mE2 _ hp),hb,hp⟩
   ·exact ihx b _ hb (fun p hp=>hT p (mE2 _ hp)) hp i l' hm
  | no=>simp[places]at hm
  | two a1 a2=>simp[places]at hm
 | _=>
  intro a l hwf hT hl i l' hm
  cases a with
  | at_ j k b=>
   obtain⟨hna,hb⟩:=yN1 hwf;simp only[places,wF2,Prod.mk.injEq]at hm;obtain⟨_,rfl⟩:=hm;refine⟨fun p hp=>?_,hb,hl⟩;cases b <;> first | (simp[places]at hp;done) | cases hna
  | no=>simp[places]at hm
  | two a1 a2=>simp[places]at hm
end
section
variable {w w0 : World} {M Z0 Z : Nat → Prop} {γ γ' γ0 : Nat → Value} {m : Nat} {s s' : St} {a : Act}
theorem All2.set_left {α β:Type} {R:α→β→Prop}:∀{l:List α} {m:List β} {j:Nat} {x:α} {v:β},All2 R l m→m[j]?=some v→R x v→All2 R (l.set j x) m
 | [],[],_,_,_,_,hv,_=>by simp at hv
 | a::l,b::m,0,x,v,h,hv,hx=>by simp only[bI2,Option.some.injEq]at hv;subst hv;exact⟨hx,h.2⟩
 | a::l,b::m,j+1,x,v,h,hv,hx=>by simp only[qG2]at hv;exact⟨h.1,All2.set_left h.2 hv hx⟩
 | [],_::_,_,_,_,h,_,_=>h.elim
 | _::_,[],_,_,_,h,_,_=>h.elim
theorem kX1 (hm:m≤1000) {n i:Nat} {k:Keep} (hn:1000≤n) (h:prep s n i k=some s') (hg:Good w0 M Z0 γ0 m s a w):Good w0 M Z0 γ0 m s' a w:=by
 obtain⟨⟨Z,γ,hi,hs,hγ⟩,hb,hd⟩:=id hg
 cases k with
 | as=>simp only[prep]at h;cases h;exact hg
 | frz=>
  simp only[prep]at h;split at h
  ·rename_i l hl;cases h;obtain⟨Z',_,h2,h3⟩:=vL l hi hs;exact⟨⟨Z',γ,h2,h3,hγ⟩,by rw[qO];exact hb,hd⟩
  ·cases h
 | val t=>
  simp only[prep]at h;split at h
  ·rename_i c hc;split at h
   ·rename_i c' hc';split at h
    ·rename_i x hx;cases h;obtain⟨Z',_,h2,h3⟩:=vL [c] hi hs;have hsl:=h3.ok i;rw[show(s.frzAll [c]).sl.getD i (.lf .u) = .lf c' from(St.get_def _ i).symm.trans hc']at hsl;exact⟨⟨Z',γ,h2,vP h3 (wF1 hx hsl),hγ⟩,by show 1000≤(s.frzAll [c]).b;rw[qO];exact hb,hd⟩
    ·cases h
   ·cases h
  ·cases h
 | own e t=>
  simp only[prep]at h;split at h
  ·rename_i hc;split at h
   ·rename_i hf;cases h
    have hmk:=tL (w':=w) (N:=fun _=>False) (v:=.slice none 0 0) (b:=.row e t []) hi hs hf (Frm.refl _ _) (fun _ _ h=>h) (fun _ hn=>hn.elim)
     ⟨[],by rw[eE];exact World.ownsRow_nil w 0 e t.sz,rfl⟩ (fun k hk=>by cases hk)
    have hsl:=hs.ok i;rw[show s.sl.getD i (.lf .u) = .lf .nl from(St.get_def s i).symm.trans hc]at hsl;exact⟨⟨Z,_,hmk.1,vP hmk.2 ⟨by rw[eE];exact hsl,by rw[eE];exact⟨_,_,_,rfl⟩⟩,fun j hj=>(qJ (by omega)).trans (hγ j hj)⟩,hb,hd⟩
   ·cases h
  ·cases h;exact hg
  ·rename_i r k hc;split at h
   ·rename_i xs hx;split at h
    ·rename_i hf;cases h;have hlk:=yH hx;obtain⟨cs,how,hrl⟩:=hi.obs r _ hlk;have hsl:=hs.ok i;rw[show s.sl.getD i (.lf .u) = .lf (.oh r k)from(St.get_def s i).symm.trans hc]at hsl;obtain⟨A,n',cp,h3,h4,h5,h6⟩:=id hsl;rw[h3]at how;have hn':n'=xs.length:=by
      rcases how.2 with⟨e1,e2⟩ | ⟨_,_,_,e1,_⟩
      ·cases e1;exact e2.symm
      ·cases e1;rfl
     subst hn'
     have hmk:=tL (w':=w) (N:=fun k'=>blkV (γ r)=some k') (ob1:=del s.ob r) (v:=.slice A k.toNat cp) (b:=.row e t (xs.take k.toNat)) hi hs hf ((Frm.refl (fun _=>False) w).mono fun _ _ h=>h.elim)
      (fun n b hn=>by
       rw[bI]at hn;by_cases hrn:r=n
       ·rw[if_pos hrn]at hn;cases hn
       ·rwa[if_neg hrn]at hn)
      (fun k' hk=>⟨(hi.own r _ k' hlk hk).1,(hi.own r _ k' hlk hk).2,fun n b' hn hk'=>by
       rw[bI]at hn;by_cases hrn:r=n
       ·rw[if_pos hrn]at hn;cases hn
       ·rw[if_neg hrn]at hn
        exact hrn (hi.disj r n _ b' k' hlk hn hk hk')⟩)
      ⟨cs.take (k.toNat*t.sz),by rw[eE,fF2,Nat.min_eq_left h6];exact lR how k.toNat h6,RepL.take (fun _ _ h=>Ty.Rep.length h) hrl k.toNat⟩
      (fun k' hk=>.inl (by rw[h3];cases A <;> simp[blkV]at hk ⊢ <;> exact hk))
     exact⟨⟨Z,_,hmk.1,vP hmk.2 ⟨by rw[eE];exact h4,by rw[eE];exact⟨_,_,_,rfl⟩⟩,fun j hj=>(qJ (by omega)).trans (hγ j hj)⟩,hb,hd⟩
    ·cases h
   ·cases h
  ·cases h
 | bown e t j=>
  simp only[prep]at h;split at h
  ·rename_i b hc;split at h
   ·rename_i T l hl;split at h
    ·rename_i hj;split at h
     ·rename_i hf;cases h;rw[iE2]at hf;obtain⟨hf,hnb⟩:=hf;have hnb:¬n=b:=by rintro rfl;rw[beqt.2 rfl]at hnb;cases hnb
      have hmk:=tL (w':=w) (N:=fun _=>False) (v:=.slice none 0 0) (b:=.row e t []) hi hs hf (Frm.refl _ _) (fun _ _ h=>h) (fun _ hn=>hn.elim)
       ⟨[],by rw[eE];exact World.ownsRow_nil w 0 e t.sz,rfl⟩ (fun k hk=>by cases hk)
      have hl2:look (s.withOb (put s.ob n (.row e t []))).ob b=some (.box T l):=by show look (put s.ob n (.row e t [])) b=_;rw[zF,if_neg hnb,hl]
      obtain⟨g2,cur,h6,h7,h8⟩:=hmk.1.obs b _ hl2
      have hrw:=qK (s:=s.withOb (put s.ob n (.row e t []))) (w':=w) (n:=b) (b:=.box T (l.set j (.o n))) hmk.1 hmk.2 hl2 ((Frm.refl (fun _=>False) w).mono fun _ _ h=>h.elim)
       ⟨g2,cur,h6,h7,by
        have hjl:=(sF2.1 hj).1;have hlen:=All2.length h8;have hjv:cur.toList[j]?=some (.slice none 0 0):=by
         have hjc:j<cur.toList.length:=by omega
         have:=All2.get j _ cur.toList[j] h8 hj (sE2 hjc);rw[sE2 hjc];exact congrArg some this
        exact All2.set_left h8 hjv ⟨by rw[eE],by rw[eE];exact⟨_,_,_,rfl⟩⟩⟩ (fun _ _ _ e=>by cases e)
      exact⟨⟨Z,_,hrw.1,hrw.2,fun j hj=>(qJ (by omega)).trans (hγ j hj)⟩,hb,hd⟩
     ·cases h
    ·cases h;exact hg
    ·rename_i r k hj;split at h
     ·rename_i xs hx;split at h
      ·rename_i hf;cases h;rw[iE2]at hf;obtain⟨hf,hnb⟩:=hf;have hnb:¬n=b:=by rintro rfl;rw[beqt.2 rfl]at hnb;cases hnb
       have hlk:=yH hx;have hrb:r≠b:=by rintro rfl;rw[hl]at hlk;cases hlk
       obtain⟨cs,how,hrl⟩:=hi.obs r _ hlk;obtain⟨g0,cur0,h60,h70,h80⟩:=hi.obs b _ hl;have hjl0:=(sF2.1 hj).1;have hjc0:j<cur0.toList.length:=by have:=All2.length h80;omega
       obtain⟨A,n',cp,h3,h4,h5,h6⟩:=All2.get j _ cur0.toList[j] h80 hj (sE2 hjc0);rw[h3]at how;have hn':n'=xs.length:=by
        rcases how.2 with⟨e1,e2⟩ | ⟨_,_,_,e1,_⟩
        ·cases e1;exact e2.symm
        ·cases e1;rfl
       subst hn'
       have hmk:=tL (w':=w) (N:=fun k'=>blkV (γ r)=some k') (ob1:=del s.ob r) (v:=.slice A k.toNat cp) (b:=.row e t (xs.take k.toNat)) hi hs hf ((Frm.refl (fun _=>False) w).mono fun _ _ h=>h.elim)
        (fun n b hn=>by
         rw[bI]at hn;by_cases hrn:r=n
         ·rw[if_pos hrn]at hn;cases hn
         ·rwa[if_neg hrn]at hn)
        (fun k' hk=>⟨(hi.own r _ k' hlk hk).1,(hi.own r _ k' hlk hk).2,fun n b' hn hk'=>by
         rw[bI]at hn;by_cases hrn:r=n
         ·rw[if_pos hrn]at hn;cases hn
         ·rw[if_neg hrn]at hn
          exact hrn (hi.disj r n _ b' k' hlk hn hk hk')⟩)
        ⟨cs.take (k.toNat*t.sz),by rw[eE,fF2,Nat.min_eq_left h6];exact lR how k.toNat h6,RepL.take (fun _ _ h=>Ty.Rep.length h) hrl k.toNat⟩
        (fun k' hk=>.inl (by rw[h3];cases A <;> simp[blkV]at hk ⊢ <;> exact hk))
       have hl2:look (s.withOb (put (del s.ob r) n (.row e t (xs.take k.toNat)))).ob b=some (.box T l):=by show look (put (del s.ob r) n (.row e t (xs.take k.toNat))) b=_;rw[zF,if_neg hnb,bI,if_neg hrb,hl]
       obtain⟨g2,cur,h7,h8,h9⟩:=hmk.1.obs b _ hl2;have hcur:cur=cur0:=by rw[qJ (Ne.symm hnb),h60]at h7;cases h7;rw[h70]at h8;cases h8;rfl
       subst hcur
       have hrw:=qK (s:=s.withOb (put (del s.ob r) n (.row e t (xs.take k.toNat)))) (w':=w) (n:=b) (b:=.box T (l.set j (.o n))) hmk.1 hmk.2 hl2 ((Frm.refl (fun _=>False) w).mono fun _ _ h=>h.elim)
        ⟨g2,cur,h7,h8,All2.set_left h9 (sE2 hjc0) ⟨by rw[eE];exact h4,by rw[eE];exact⟨_,_,_,rfl⟩⟩⟩ (fun _ _ _ e=>by cases e)
       exact⟨⟨Z,_,hrw.1,hrw.2,fun j hj=>(qJ (by omega)).trans (hγ j hj)⟩,hb,hd⟩
      ·cases h
     ·cases h
    ·cases h
   ·cases h
  ·cases h;exact hg
  ·cases h
theorem tH1 (hm:m≤1000):∀{l:List (Nat×Keep)} {n:Nat} {s s':St},1000≤n→gN1 s n l=some s'→Good w0 M Z0 γ0 m s a w→Good w0 M Z0 γ0 m s' a w
 | [],n,s,s',_,h,hg=>by simp only[gN1]at h;cases h;exact hg
 | (i,k)::l,n,s,s',hn,h,hg=>by
  simp only[gN1]at h;split at h
  ·rename_i s1 h1;exact tH1 hm (by omega) h (kX1 hm hn h1 hg)
  ·cases h
theorem kW {n:Nat}:∀{ρ:List Nat} {k j:Nat},place n ρ k=some j→k≤j∧ρ[j-k]?=some n
 | [],k,j,h=>by cases h
 | x::ρ,k,j,h=>by
  simp only[place]at h;split at h
  ·rename_i hx;cases h;exact⟨rE2 _,by simp[beqt.1 hx]⟩
  ·obtain⟨h1,h2⟩:=kW h;refine⟨by omega,?_⟩;rw[show j-k=(j-(k+1))+1 by omega,qG2];exact h2
def gren (γ:Nat→Value) (ρ:List Nat):Nat→Value:=fun j=>match ρ[j]? with | some n=>γ n | none=>.tuple #[]
theorem kM {ρ:List Nat} {n j:Nat} (h:place n ρ 0=some j):gren γ ρ j=γ n:=by have:=(kW h).2;simp only[Nat.sub_zero]at this;simp only[gren,this]
theorem eY {ρ:List Nat}:∀{cs js:List Nat},fW ρ cs=some js→js.map (gren γ ρ)=cs.map γ
 | [],js,h=>by simp only[fW]at h;cases h;rfl
 | c::cs,js,h=>by
  simp only[fW]at h;split at h
  ·rename_i j r h1 h2;cases h;rw[qF2,qF2,kM h1,eY h2]
  ·cases h
theorem tO1 {ρ:List Nat} {c:Lf} {v:Value} (h:LfOK w Z γ c v):LfOK w Z (gren γ ρ) (c.ren ρ) v:=by
 cases c with
 | o r=>
  simp only[Lf.ren];split
  ·rename_i j hj;simpa only[LfOK,kM hj]using h
  ·trivial
 | oh r k=>
  simp only[Lf.ren];split
  ·rename_i j hj;simpa only[LfOK,kM hj]using h
  ·trivial
 | ot r k z=>
  simp only[Lf.ren];split
  ·rename_i j hj;simpa only[LfOK,kM hj]using h
  ·trivial
 | p b off=>
  simp only[Lf.ren];split
  ·rename_i j hj;simpa only[LfOK,kM hj]using h
  ·trivial
 | fn f cs=>
  simp only[Lf.ren];split
  ·rename_i js hjs;have e:=eY (γ:=γ) hjs;refine⟨h.1.trans (by rw[e]),by rw[e];exact h.2.1,fun b hb=>?_⟩;have:gren γ ρ b∈cs.map γ:=by rw[←e];exact kF2.2 ⟨b,hb,rfl⟩
   obtain⟨c,hc,e2⟩:=kF2.1 this;rw[←e2];exact h.2.2 c hc
  ·trivial
 | _=>exact h
theorem oB1 {ρ:List Nat} {l:List Lf} {vs:List Value} (h:All2 (LfOK w Z γ) l vs):All2 (LfOK w Z (gren γ ρ)) (l.map (Lf.ren ρ)) vs:=All2.map _ (fun _ _ _ h=>tO1 h) h
theorem qR {ob:List (Nat×Ob)} {ρ:List Nat} {n:Nat} {o:Ob}:∀{l:List Nat} {j:Nat},look (lJ1 ob ρ j l) n=some o→j≤n ∧ ∃k o0,l[n-j]?=some k∧look ob k=some o0∧o=o0.map (Lf.ren ρ)
 | [],j,h=>by cases h
 | k::l,j,h=>by
  simp only[lJ1]at h;split at h
  ·rename_i o0 ho;simp only[look]at h;split at h
   ·rename_i hj;cases h;have:=beqt.1 hj;subst this;exact⟨rE2 _,k,o0,by simp,ho,rfl⟩
   ·obtain⟨h1,k',o1,h2,h3⟩:=qR h;refine⟨by omega,k',o1,?_,h3⟩;rw[show n-j=(n-(j+1))+1 by omega,qG2];exact h2
  ·obtain⟨h1,k',o1,h2,h3⟩:=qR h;refine⟨by omega,k',o1,?_,h3⟩;rw[show n-j=(n-(j+1))+1 by omega,qG2];exact h2
theorem cR :∀(l a:List Nat),a.Nodup→(dedup a l).Nodup ∧ ∃r,dedup a l=a++r
 | [],a,h=>⟨h,[],by simp[dedup]⟩
 | n::l,a,h=>by
  simp only[dedup];split
  ·exact cR l a h
  ·rename_i hn;obtain⟨h1,r,h2⟩:=cR l (a++[n]) (vG2.2 ⟨h,by simp,fun x hx y hy e=>hn (rH2.2 ⟨x,hx,beqt.2 (by simp at hy;rw[e,hy])⟩)⟩);exact⟨h1,[n]++r,by rw[h2,uE2]⟩
theorem eB1 :∀(k i:Nat),i<k→(upto k)[i]?=some i
 | 0,i,h=>by omega
 | k+1,i,h=>by
  have hl:∀k,(upto k).length=k:=by intro k;induction k with | zero=>rfl | succ k ih=>simp[upto,ih]
  simp only[upto];by_cases hi:i<k
  ·rw[tF2 (by rw[hl];exact hi)];exact eB1 k i hi
  ·have:i=k:=by omega
   subst this;rw[yF2 (by rw[hl];exact rE2 _),hl];simp
theorem nT1 :∀k,(upto k).length=k:=by intro k;induction k with | zero=>rfl | succ k ih=>simp[upto,ih]
theorem oA1 :∀(k n:Nat),n∈upto k→n<k
 | 0,_,h=>by simp[upto]at h
 | k+1,n,h=>by
  simp only[upto,xE2,wF2]at h;rcases h with h | h
  ·exact Nat.lt_succ_of_lt (oA1 k n h)
  ·omega
theorem vR :∀(k:Nat),(upto k).Nodup
 | 0=>List.nodup_nil
 | k+1=>vG2.2 ⟨vR k,by simp,fun x hx y hy e=>by
  have:=oA1 k x hx;simp at hy
  omega⟩
theorem qD1 {ρ live:List Nat}:∀(l:List Slot) (k i:Nat),(kB1 ρ live k l).getD i (.lf .u) = .lf .u ∨ ∃x,l[i]?=some x∧(kB1 ρ live k l).getD i (.lf .u)=x.ren ρ
 | [],k,i=>.inl (by simp[kB1])
 | x::l,k,0=>by
  simp only[kB1,List.getD_cons_zero];split
  ·exact .inr ⟨x,rfl,rfl⟩
  ·exact .inl rfl
 | x::l,k,i+1=>by simp only[kB1,List.getD_cons_succ,qG2];exact qD1 l (k+1) i
theorem sE1 {ρ live:List Nat}:∀(l:List Slot) (k:Nat),(kB1 ρ live k l).length=l.length
 | [],_=>rfl
 | x::l,k=>by simp[kB1,sE1 l (k+1)]
theorem jL1 (ob:List (Nat×Ob)) (m:Nat):(mS ob m).length=m:=by unfold mS;rw[gG2,nT1]
theorem uC1 (ob:List (Nat×Ob)) {m:Nat} (hm:m≤1000):(mS ob m).Nodup:=by
 unfold mS
 have h:∀l:List Nat,l.Nodup→(∀n∈l,n<m)→(l.map fun n=>if uD1 ob n=true then 5000000+n else n).Nodup:=by
  intro l
  induction l with
  | nil=>intro _ _;exact List.nodup_nil
  | cons x l ih=>
   intro h hl;obtain⟨h1,h2⟩:=vH2.1 h;refine vH2.2 ⟨fun hx=>?_,ih h2 fun n hn=>hl n (mE2 _ hn)⟩;obtain⟨y,hy,e⟩:=kF2.1 hx;have a1:=hl x nE2;have a2:=hl y (mE2 _ hy);have:y=x:=by
    revert e
    dsimp only;split <;> split <;> intro e <;> omega
   exact h1 (this ▸ hy)
 exact h _ (vR m) fun n hn=>oA1 m n hn
theorem jS1 {live:List Nat} (hm:m≤1000) (hfr:((upto m).all fun n=> !(uD1 s.ob n)||s.fresh (5000000+n))=true) (hg:Good w0 M Z0 γ0 m s a w):Good w0 M Z0 γ0 m (s.canon m live) a w:=by
 obtain⟨⟨Z,γ0',hi,hs,hγ⟩,hb,hd⟩:=hg;have hfr':∀n,n<m→uD1 s.ob n=true→s.fresh (5000000+n)=true:=by intro n hn h;have hmem:n∈upto m:=List.mem_of_getElem? (eB1 m n hn);have:=pG2.1 hfr n hmem;rw[h]at this;simpa using this
 obtain⟨γ,hγd⟩:∃γ:Nat→Value,γ=fun k=>if 5000000≤k∧k-5000000<m∧uD1 s.ob (k-5000000)=true then γ0' (k-5000000)else γ0' k:=⟨_,rfl⟩
 have hsame:∀k,s.fresh k=false→γ k=γ0' k:=by
  intro k hk;rw[hγd];dsimp only;split
  ·rename_i h;have:=hfr' _ h.2.1 h.2.2;rw[Nat.add_sub_cancel' h.1]at this;rw[hk]at this;cases this
  ·rfl
 have hlow:∀n,n<m→γ n=γ0' n:=by intro n hn;rw[hγd];dsimp only;rw[if_neg (fun h=>by omega)]
 have hdum:∀n,n<m→uD1 s.ob n=true→γ (5000000+n)=γ0' n:=by intro n hn h;rw[hγd];dsimp only;rw[Nat.add_sub_cancel_left,if_pos ⟨by omega,hn,h⟩]
 have hkey:∀n o,look s.ob n=some o→γ n=γ0' n ∧ ∀j,o.names j=true→γ j=γ0' j:=by
  intro n o h;refine⟨hsame n ?_,fun j hj=>hsame j ?_⟩
  ·cases hf:s.fresh n with
   | false=>rfl
   | true=>exact absurd rfl (iT hf h).1
  ·cases hf:s.fresh j with
   | false=>rfl
   | true=>have:=(iT hf h).2;rw[hj]at this;cases this
 replace hi:Inv w0 M Z0 w Z γ s.ob:=by
  refine⟨hi.frm,hi.zlt,hi.zold,fun n o h=>?_,fun n n' o o' b h h' h1 h2=>?_,fun n o b h h1=>?_⟩
  ·exact(hi.obs n o h).keep (Stay.refl w Z) (fun _ _=>rfl) (hkey n o h).1 (hkey n o h).2
  ·rw[(hkey n o h).1]at h1;rw[(hkey n' o' h').1]at h2;exact hi.disj n n' o o' b h h' h1 h2
  ·rw[(hkey n o h).1]at h1;exact hi.own n o b h h1
 replace hs:SlotsOK w Z γ s.ob s.sl a.tmps:=by
  refine⟨hs.len,fun i=>(hs.ok i).keep (Stay.refl w Z) fun n hn=>⟨hsame n ?_,fun E t xs h=>⟨E,xs,h,rfl⟩⟩⟩
  cases hf:s.fresh n with
  | false=>rfl
  | true=>have:=mT (i:=i) hf;rw[hn]at this;cases this
 unfold St.canon;obtain⟨ρ,hρ⟩:∃ρ,ρ=dedup (mS s.ob m) (zT s.ob 4 (s.lfs live)):=⟨_,rfl⟩
 rw[←hρ];obtain⟨hnd,r,hpre⟩:=cR (zT s.ob 4 (s.lfs live)) (mS s.ob m) (uC1 s.ob hm);rw[←hρ]at hnd hpre;have hlk:∀n o,look (lJ1 s.ob ρ 0 ρ) n=some o → ∃k o0,ρ[n]?=some k∧look s.ob k=some o0∧o=o0.map (Lf.ren ρ)∧gren γ ρ n=γ k:=by intro n o h;obtain⟨_,k,o0,h1,h2,h3⟩:=qR h;rw[Nat.sub_zero]at h1;exact⟨k,o0,h1,h2,h3,by simp only[gren,h1]⟩
 refine⟨⟨Z,gren γ ρ,⟨hi.frm,hi.zlt,hi.zold,?_,?_,?_⟩,⟨by rw[sE1];exact hs.len,fun i=>?_⟩,fun n hn=>?_⟩,hb,hd⟩
 ·intro n o h;obtain⟨k,o0,h1,h2,h3,h4⟩:=hlk n o h;have:=hi.obs k o0 h2;subst h3
  cases o0 with
  | row E t xs=>obtain⟨cs,h5,h6⟩:=this;exact⟨cs,by rw[h4];exact h5,h6⟩
  | box T l=>obtain⟨g,cur,h5,h6,h7⟩:=this;exact⟨g,cur,h4.trans h5,h6,oB1 h7⟩
 ·intro n n' o o' b h h' hb1 hb2;obtain⟨k,o0,h1,h2,_,h4⟩:=hlk n o h;obtain⟨k',o0',h1',h2',_,h4'⟩:=hlk n' o' h';rw[h4]at hb1;rw[h4']at hb2;have:=hi.disj k k' o0 o0' b h2 h2' hb1 hb2;subst this;exact(List.getElem?_inj (sF2.1 h1).1 hnd).1 (h1.trans h1'.symm)
 ·intro n o b h hb1;obtain⟨k,o0,h1,h2,_,h4⟩:=hlk n o h;rw[h4]at hb1;exact hi.own k o0 b h2 hb1
 ·rcases qD1 (ρ:=ρ) (live:=live) s.sl 0 i with h | ⟨x,hx,h⟩
  ·rw[h];trivial
  ·rw[h];have hok:=hs.ok i;rw[oE2,hx,zG2]at hok
   cases x with
   | lf c=>exact tO1 hok
   | ag l=>obtain⟨cs,e,hl⟩:=hok;exact⟨cs,e,oB1 hl⟩
   | tp l=>
    obtain⟨vs,e,hl⟩:=hok;refine⟨vs,e,All2.map _ (fun y _ v h=>?_) hl⟩;dsimp only;split at h
    ·rename_i hb;rw[if_pos hb];obtain⟨cs,e,h⟩:=h;exact⟨cs,e,oB1 h⟩
    ·rename_i hb;rw[if_neg hb];obtain⟨c,e,h⟩:=h;exact⟨_,by rw[e];rfl,tO1 h⟩
   | q l=>obtain⟨ad,vs,e,hz,hl,hc⟩:=hok;exact⟨ad,vs,e,hz,oB1 hl,hc⟩
   | e r j off=>
    simp only[Slot.ren];split
    ·rename_i j' hj';intro E t xs hx;obtain⟨k,o0,h1,h2,h3,h4⟩:=hlk j' _ hx;have h5:=(kW hj').2;rw[Nat.sub_zero,h1]at h5;cases h5
     cases o0 with
     | box T l=>cases h3
     | row E' t' xs'=>
      cases h3;rw[h4];exact hok E t xs h2
    ·trivial
 ·have h1:ρ[n]?=some (if uD1 s.ob n=true then 5000000+n else n):=by rw[hpre,tF2 (by rw[jL1];exact hn)];unfold mS;rw[hH2,eB1 m n hn];rfl
  simp only[gren,h1];split
  ·rename_i h;rw[hdum n hn h];exact hγ n hn
  ·rw[hlow n hn];exact hγ n hn
theorem wB2 (hm:m≤1000) {k:List (Nat×Keep)} (h:qB1 s m k=some s') (hg:Good w0 M Z0 γ0 m s a w):Good w0 M Z0 γ0 m s' a w:=by
 unfold qB1 at h;split at h
 ·rename_i s1 h1;split at h
  ·rename_i hfr;cases h;exact jS1 hm hfr (tH1 hm (by omega) h1 hg)
  ·cases h
 ·cases h
end
section
variable {P : Program} {E : Env} {w w0 : World} {M Z0 Z : Nat → Prop} {γ γ' γ0 : Nat → Value} {m : Nat} {s s' : St} {a : Act}
theorem lP1 :∀(l:Shs) (n i:Nat),l.allBox=true→i∈l.refs n→i<n+l.cnt
 | .nil,n,i,_,h=>by simp[Shs.refs]at h
 | .cons (.box T sh) l,n,i,ha,h=>by
  simp only[Shs.allBox]at ha;simp only[Shs.refs,pE2]at h;rcases h with h | h
  ·simp only[Shs.cnt,Sh.cnt];omega
  ·have:=lP1 l _ i ha h;simp only[Shs.cnt];omega
 | .cons (.val _) _,_,_,ha,_=>by cases ha
 | .cons (.own _ _) _,_,_,ha,_=>by cases ha
 | .cons (.mv _ _) _,_,_,ha,_=>by cases ha
 | .cons (.fn _ _) _,_,_,ha,_=>by cases ha
 | .cons (.rcd _) _,_,_,ha,_=>by cases ha
mutual
theorem oW :∀{s:Sh} {x:s.T.D} {n k:Nat} {c:List Lf} {ob:List (Nat×Ob)} {rest:List Nat},s.mk (List.range' n k) x=some (c,ob,rest)→s.cnt≤k∧rest=List.range' (n+s.cnt) (k-s.cnt) ∧
  ((match s with | .val _=>true | .rcd _=>true | _=>false)=true∨c=[s.ref n]) ∧ ∀j,(s.ref n).names j=true→j<n+s.cnt
 | .val t,x,n,k,c,ob,rest,h=>by simp only[Sh.mk]at h;cases h;exact⟨kE2 _,rfl,.inl rfl,fun j hj=>by simp[Sh.ref,Lf.names]at hj⟩
 | .own e t,x,n,0,c,ob,rest,h=>by simp[Sh.mk]at h
 | .own e t,x,n,k+1,c,ob,rest,h=>by simp only[Sh.mk,cI2]at h;cases h;exact⟨by simp[Sh.cnt],rfl,.inr rfl,fun j hj=>by simp only[Sh.ref,Lf.names,beqt]at hj;simp only[Sh.cnt];omega⟩
 | .mv e t,x,n,0,c,ob,rest,h=>by simp[Sh.mk]at h
 | .mv e t,x,n,k+1,c,ob,rest,h=>by simp only[Sh.mk,cI2]at h;cases h;exact⟨by simp[Sh.cnt],rfl,.inr rfl,fun j hj=>by simp only[Sh.ref,Lf.names,beqt]at hj;simp only[Sh.cnt];omega⟩
 | .box T sh,x,n,0,c,ob,rest,h=>by simp[Sh.mk]at h
 | .box T sh,x,n,k+1,c,ob,rest,h=>by
  simp only[Sh.mk,cI2]at h;split at h
  ·rename_i c1 ob1 m1 h1;cases h;obtain⟨h2,h3,_⟩:=aT h1;refine⟨by simp only[Sh.cnt];omega,?_,.inr rfl,fun j hj=>by simp only[Sh.ref,Lf.names,beqt]at hj;simp only[Sh.cnt];omega⟩;rw[h3];simp only[Sh.cnt]
   congr 1 <;> omega
  ·cases h
 | .fn f sh,x,n,k,c,ob,rest,h=>by
  simp only[Sh.mk]at h;split at h
  ·rename_i c1 ob1 m1 h1;split at h1
   ·rename_i ha;cases h;obtain⟨h2,h3,h4⟩:=aT h1;refine⟨h2,h3,.inr ?_,fun j hj=>?_⟩
    ·rw[h4 ha];rfl
    ·simp only[Sh.ref,Lf.names,rH2]at hj;obtain⟨i,hi,hb⟩:=hj;rw[beqt.1 hb];exact lP1 sh n i ha hi
   ·cases h1
  ·cases h
 | .rcd sh,x,n,k,c,ob,rest,h=>by
  have h0:(if sh.flat=true then sh.mk (List.range' n k) x else none)=some (c,ob,rest):=h;by_cases hf:sh.flat=true
  ·rw[if_pos hf]at h0;obtain⟨h2,h3,_⟩:=aT (s:=sh) h0;exact⟨h2,h3,.inl rfl,fun j hj=>by simp[Sh.ref,Lf.names]at hj⟩
  ·rw[if_neg hf]at h0;cases h0
theorem aT :∀{s:Shs} {x:s.T.D} {n k:Nat} {c:List Lf} {ob:List (Nat×Ob)} {rest:List Nat},s.mk (List.range' n k) x=some (c,ob,rest)→s.cnt≤k∧rest=List.range' (n+s.cnt) (k-s.cnt) ∧
  (s.allBox=true→c.map nA1=s.refs n)
 | .nil,x,n,k,c,ob,rest,h=>by simp only[Shs.mk]at h;cases h;exact⟨kE2 _,rfl,fun _=>rfl⟩
 | .cons s l,x,n,k,c,ob,rest,h=>by
  simp only[Shs.mk]at h;split at h
  ·rename_i c1 ob1 m1 h1;split at h
   ·rename_i c2 ob2 m2 h2;cases h;obtain⟨h3,h4,h5,_⟩:=oW h1;subst h4;obtain⟨h6,h7,h8⟩:=aT h2;refine⟨by simp only[Shs.cnt];omega,by rw[h7];simp only[Shs.cnt];congr 1 <;> omega,fun ha=>?_⟩
    cases s with
    | box T sh=>
     simp only[Shs.allBox]at ha;rcases h5 with h5 | h5
     ·cases h5
     ·rw[h5,mF2,h8 ha];rfl
    | _=>cases ha
   ·cases h
  ·cases h
end
theorem iM :∀k,upto k=List.range' 0 k
 | 0=>rfl
 | k+1=>by rw[upto,iM k,List.range'_concat];simp
theorem pP1 :∀{s:Shs} {x:s.T.D} {n k:Nat} {c:List (Bool×List Lf)} {ob:List (Nat×Ob)} {rest:List Nat} {vs:List Value},s.mkA (List.range' n k) x=some (c,ob,rest) →
  All2 (fun(y:Bool×List Lf) v=>if y.1=true then ∃cs,v = .agg cs∧All2 (LfOK w Z γ) y.2 cs.toList else ∃d,y.2=[d]∧LfOK w Z γ d v) c vs → ∀N,n+s.cnt≤N→All2 (fun y v=>(∀w' Z' ob',SlotOK w' Z' γ ob' y v) ∧ ∀j,y.names j=true→j<N) (s.refP n) (s.io vs)
 | .nil,x,n,k,c,ob,rest,vs,h,hl,N,hN=>by trivial
 | .cons s l,x,n,k,c,ob,rest,vs,h,hl,N,hN=>by
  simp only[Shs.mkA]at h;split at h
  ·rename_i c1 ob1 m1 h1;split at h
   ·rename_i c2 ob2 m2 h2;cases h
    cases vs with
    | nil=>exact hl.elim
    | cons v vs=>
     obtain⟨h3,h4,h5,h7⟩:=oW h1;subst h4;simp only[Shs.cnt]at hN;have ih:=pP1 (s:=l) h2 hl.2 N (by omega);have h6:=hl.1;simp only[Shs.refP,Shs.io]
     cases s with
     | val t=>exact ih
     | mv e t=>exact ih
     | rcd b=>exact ih
     | own e t=>
      rcases h5 with h5 | h5
      ·cases h5
      ·obtain⟨d,e1,e2⟩:=h6;rw[h5]at e1;cases e1;exact⟨⟨fun _ _ _=>e2,fun j hj=>uF2 (h7 j hj) (by omega)⟩,ih⟩
     | box T sh=>
      rcases h5 with h5 | h5
      ·cases h5
      ·obtain⟨d,e1,e2⟩:=h6;rw[h5]at e1;cases e1;exact⟨⟨fun _ _ _=>e2,fun j hj=>uF2 (h7 j hj) (by omega)⟩,ih⟩
     | fn f sh=>
      rcases h5 with h5 | h5
      ·cases h5
      ·obtain⟨d,e1,e2⟩:=h6;rw[h5]at e1;cases e1;exact⟨⟨fun _ _ _=>e2,fun j hj=>uF2 (h7 j hj) (by omega)⟩,ih⟩
   ·cases h
  ·cases h
def resM (tm:Array Value):ResultVar→Sem Value
 | .tmp t=>pure (tm.getD t undef)
 | .cell a t=>do loadVar t (←asAddr (tm.getD a undef))
theorem cP (henv:kF P E=true) {γ:Nat→Value} (hi:Inv w0 M Z0 w Z γ s.ob) {tm:Array Value} (hs:SlotsOK w Z γ s.ob s.sl tm):∀{rv:List ResultVar} {l:List Slot},nM E s rv=some l →
  ∃vs,(rv.mapM (resM tm)).run P w = .ok vs w∧All2 (SlotOK w Z γ s.ob) l vs
 | [],l,h=>by simp only[nM]at h;cases h;exact⟨[],by simp,trivial⟩
 | .tmp t::rv,l,h=>by
  simp only[nM]at h;split at h
  ·rename_i r hr;cases h;obtain⟨vs,h1,h2⟩:=cP henv hi hs hr;exact⟨tm.getD t undef::vs,by simp only[List.mapM_cons,Sem.run_bind,h1,resM,Sem.run_pure,Result.andThen_ok],by rw[St.get_def];exact hs.ok t,h2⟩
  ·cases h
 | .cell x T::rv,l,h=>by
  simp only[nM]at h;split at h
  ·rename_i r b off hr hx;split at h
   ·rename_i U c hl;split at h
    ·rename_i ag n hc;split at h
     ·rename_i y hy;cases h;obtain⟨vs,h1,h2⟩:=cP henv hi hs hr;have hx':=hs.ok x;rw[show s.sl.getD x (.lf .u) = .lf (.p b off)from(St.get_def s x).symm.trans hx]at hx';obtain⟨g,h4,h5⟩:=hx';obtain⟨g2,cur,h6,h7,h8⟩:=hi.obs b _ hl;rw[h4]at h6;cases h6;obtain⟨hn,hsl⟩:=vQ (ob:=s.ob) hy (All2.drop off h8)
      have hld:=dP (P:=P) (w:=w) (wZ henv hc) ⟨g,off,none⟩ ((cur.toList.drop off).take n) (by rw[fF2];omega) fun j u hu=>uA1 h7 j u (by
       rw[eH2]at hu;split at hu
       ·exact hu
       ·cases hu)
      refine⟨_::vs,?_,hsl,h2⟩;have hx2:(resM tm (.cell x T)).run P w = .ok (gI ag ((cur.toList.drop off).take n)) w:=by simp only[resM,Sem.run_bind,Sem.run_pure,Result.andThen_ok,h5,asAddr,hld]
      simp only[List.mapM_cons,Sem.run_bind,Sem.run_pure,Result.andThen_ok,hx2,h1]
     ·cases h
    ·cases h
   ·cases h
  ·cases h
theorem nT :∀(a b:Tys) (x:a.D) (y:b.D),a.fst b (a.join b x y)=x
 | .nil,_,_,_=>rfl
 | .cons _ a,b,x,y=>by simp only[Tys.join,Tys.fst,nT a b];rfl
theorem aZ :∀(a b:Tys) (x:a.D) (y:b.D),a.snd b (a.join b x y)=y
 | .nil,_,_,_=>rfl
 | .cons _ a,b,x,y=>by simp only[Tys.join,Tys.snd,aZ a b]
theorem gF1 {fn:Func} {tm:Array Value} {vs:List Value} (h:(fn.results.toList.mapM (resM tm)).run P w = .ok vs w):
  (results fn tm).run P w = .ok (pI1 vs) w:=by
 have e:results fn tm=(do
   let vs ←fn.results.mapM (resM tm)
   pure (if h:vs.size=1 then vs[0]else .tuple vs)):=by
  unfold results
  congr 2
 rw[e,Array.mapM_eq_mapM_toList];simp only[Sem.run_bind,Sem.run_map,h,Result.andThen_ok,Sem.run_pure]
 congr 1
 match vs with
 | []=>rfl
 | [v]=>rfl
 | v::v'::vs=>simp[pI1]
theorem kN1 {s:Shs} (hs:zW1 s=true) {x:s.T.D} {vs:List Value} {bs:List Nat} (h:s.RepA w Z x (.bool false::vs) bs):s.T.nilB x=false ∧ ∃v,vs=[v]:=by
 unfold zW1 at hs;split at hs
 ·rename_i q;obtain⟨v,vs',c,d,e1,e2,⟨cs,h0,h1,_⟩,v2,vs2,c2,d2,e3,e4,_,e5,_⟩:=h;obtain⟨ev,evs⟩:=lH2 e1;have h0':cs=[v]:=h0;have h1':cs=[.bool x.1]:=h1;rw[h0',←ev]at h1';have hx:false=(show Bool from x.1):=by have:=lH2 h1';exact Value.bool.inj this.1
  refine⟨hx.symm,v2,?_⟩;rw[evs,e3,e5]
 ·cases hs
theorem vI1 {D:FnD} {γ:Nat→Value} {nb:List Nat} {args:List Value} {y:D.par.inout.T.D} {l:List Slot} {ob:List (Nat×Ob)} (hob:∀n o,look ob n=some o→ObOK w Z γ n o) (hy:D.par.inout.takeA ob l=some (y,nb)) (hio:All2 (SlotOK w Z γ ob) l (D.par.io args))
  (hid:∃bx,D.par.inout.Bx w0 (D.par.io args) bx∧(aH D.par.inout.bxs (D.par.keep (upto D.par.cnt))).map γ=bx.map ptrV) (h:iT1 D nb=true):D.idn=true → ∃bx,D.par.inout.Bx w0 (D.par.io args) bx∧D.par.inout.Bx w (D.par.io args) bx:=by
 intro q;unfold iT1 at h;rw[q]at h;simp only[lE2,Bool.false_or]at h;obtain⟨bx,h1,h2⟩:=hid;obtain⟨bx',h3,h4⟩:=rZ hob hy hio;rw[iV1 h,h2]at h4;rw[←nN1 h4]at h3;exact⟨bx,h1,rM h3⟩
theorem sZ1 (henv:kF P E=true) {D:FnD} {fn:Func} (hrv:D.rv=fn.results.toList) {r:(D.res.T.app D.par.inout.T).D} (h:fin E D s=some r) {Z:Nat→Prop} {γ:Nat→Value} {bs:List Nat} (hi:Inv w0 (· ∈ bs) Z0 w Z γ s.ob)
  (hs:SlotsOK w Z γ s.ob s.sl a.tmps) {args:List Value} (hio:All2 (SlotOK w Z γ s.ob) (D.par.refP 0) (D.par.io args)) (hid:∃bx,D.par.inout.Bx w0 (D.par.io args) bx∧(aH D.par.inout.bxs (D.par.keep (upto D.par.cnt))).map γ=bx.map ptrV):
  ∃v,(results fn a.tmps).run P w = .ok v w∧Back D w0 Z0 args bs r v w:=by
 unfold fin at h;split at h
 ·cases h
 ·rename_i sl hsl;rw[hrv]at hsl;obtain⟨vs,hr,hvs⟩:=cP henv hi hs hsl;refine⟨_,gF1 hr,?_⟩;split at h
  ·rename_i hnil;split at h
   ·rename_i y nb hy;split at h
    ·rename_i hnd;cases h;rw[iE2]at hnd;obtain⟨hnd,hidn⟩:=hnd;have hsl2:sl=[.lf .np]∧D.opt=true∧D.res.T.nilB D.res.T.nilD=true:=by
      unfold hV1 at hnil;split at hnil
      ·rw[iE2]at hnil;exact⟨rfl,hnil.1,hnil.2⟩
      ·cases hnil
     obtain⟨e1,ho,hn⟩:=hsl2;subst e1
     match vs,hvs with
     | [v],hvs=>
      have hv:v = .pointer none:=hvs.1;subst hv
      let Zc:Nat→Prop:=fun k=>Z k ∨ ∃q∈rowNames (D.par.inout.valsA s.ob (D.par.refP 0)),(look s.ob q).isSome=true∧blkV (γ q)=some k
      obtain⟨h3,h4,_⟩:=oP (Z':=Zc) hi.obs (fun k hk=>.inl hk) hy hio fun q hq hl k hk=>.inr ⟨q,hq,hl,hk⟩
      have hnd':=bM hnd;obtain⟨hnd1,_,hnd2⟩:=vG2.1 hnd';have hlive:∀n∈nb,∃o,look s.ob n=some o:=rO h4;refine⟨Zc,[],blks (nb.map γ),hi.frm,?_,?_,by rw[aZ];exact h3,?_,?_,vI1 hi.obs hy hio hid hidn⟩
      ·rintro b (hz | ⟨q,hq,hql,hqb⟩)
       ·exact⟨hi.zlt b hz,hi.zold b hz⟩
       ·obtain⟨o,ho⟩:=dH2.1 hql;exact⟨yR (hi.obs q o ho) hqb,fun hlt=>.inr ((hi.own q o b ho hqb).2 hlt)⟩
      ·unfold dV;rw[if_pos ho,nT];exact .inl ⟨hn,rfl,rfl⟩
      ·rw[zE2];refine aO hnd1 fun n m b hn hm h5 h6=>?_
       obtain⟨o,ho⟩:=hlive n hn;obtain⟨o',ho'⟩:=hlive m hm;exact hi.disj n m o o' b ho ho' h5 h6
      ·intro b hb;rw[zE2]at hb;obtain⟨n,hn,hbn⟩:=oM.1 hb;obtain⟨o,ho⟩:=hlive n hn;refine⟨?_,(hi.own n o b ho hbn).2⟩;rintro(hz | ⟨q,hq,hql,hqb⟩)
       ·exact(hi.own n o b ho hbn).1 hz
       ·obtain⟨o',ho'⟩:=dH2.1 hql;have:=hi.disj n q o o' b ho ho' hbn hqb;subst this;exact hnd2 n hn n (sN _ [] (.inr hq)) rfl
     | [],hvs=>exact hvs.elim
     | _::_::_,hvs=>exact hvs.2.elim
    ·cases h
   ·cases h
  ·split at h
   ·rename_i x na y nb hx hy;split at h
    ·rename_i hnd;cases h;rw[iE2]at hnd;obtain⟨hnd,hidn⟩:=hnd;rw[iE2]at hnd;obtain⟨hnd,hosh⟩:=hnd
     have hvs':∃vs',All2 (SlotOK w Z γ s.ob) (yV D sl) vs'∧(if D.opt=true then vs' = .bool false::vs else vs'=vs):=by
      unfold yV;split
      ·exact⟨.bool false::vs,⟨rfl,hvs⟩,rfl⟩
      ·exact⟨vs,hvs,rfl⟩
     obtain⟨vs',hvs',hvv⟩:=hvs'
     let Zc:Nat→Prop:=fun k=>Z k ∨ ∃q∈rowNames (D.res.valsA s.ob (yV D sl)++D.par.inout.valsA s.ob (D.par.refP 0)),(look s.ob q).isSome=true∧blkV (γ q)=some k
     obtain⟨h1,h2,_⟩:=oP (Z':=Zc) hi.obs (fun k hk=>.inl hk) hx hvs' fun q hq hl k hk=>.inr ⟨q,by rw[rG];exact bF2 _ hq,hl,hk⟩
     obtain⟨h3,h4,_⟩:=oP (Z':=Zc) hi.obs (fun k hk=>.inl hk) hy hio fun q hq hl k hk=>.inr ⟨q,by rw[rG];exact tE2 _ hq,hl,hk⟩
     have hnd':=bM hnd;obtain⟨hnd1,_,hnd2⟩:=vG2.1 hnd';have hlive:∀n∈nb++na,∃o,look s.ob n=some o:=fun n hn=>(xE2.1 hn).elim (rO h4 n) (rO h2 n)
     have hnd3:(nb++na).Nodup:=(List.perm_append_comm (l₁:=na) (l₂:=nb)).nodup_iff.1 hnd1;refine⟨Zc,blks (na.map γ),blks (nb.map γ),hi.frm,?_,?_,by rw[aZ];exact h3,?_,?_,vI1 hi.obs hy hio hid hidn⟩
     ·rintro b (hz | ⟨q,hq,hql,hqb⟩)
      ·exact⟨hi.zlt b hz,hi.zold b hz⟩
      ·obtain⟨o,ho⟩:=dH2.1 hql;exact⟨yR (hi.obs q o ho) hqb,fun hlt=>.inr ((hi.own q o b ho hqb).2 hlt)⟩
     ·unfold dV;split
      ·rename_i ho;rw[if_pos ho]at hvv;rw[nT];subst hvv;rw[ho]at hosh;obtain⟨hn,v,rfl⟩:=kN1 (by simpa using hosh) h1;exact .inr ⟨hn,_,h1⟩
      ·rename_i ho;rw[if_neg ho]at hvv;subst hvv;rw[nT];exact⟨_,rfl,h1⟩
     ·rw[←sH,←mF2];refine aO hnd3 fun n m b hn hm h5 h6=>?_
      obtain⟨o,ho⟩:=hlive n hn;obtain⟨o',ho'⟩:=hlive m hm;exact hi.disj n m o o' b ho ho' h5 h6
     ·intro b hb;rw[←sH,←mF2]at hb;obtain⟨n,hn,hbn⟩:=oM.1 hb;obtain⟨o,ho⟩:=hlive n hn;refine⟨?_,(hi.own n o b ho hbn).2⟩;rintro(hz | ⟨q,hq,hql,hqb⟩)
      ·exact(hi.own n o b ho hbn).1 hz
      ·obtain⟨o',ho'⟩:=dH2.1 hql;have:=hi.disj n q o o' b ho ho' hbn hqb;subst this;exact hnd2 n (xE2.2 (xE2.1 hn).symm) n (sN _ [] (.inr hq)) rfl
    ·cases h
   ·cases h
end
mutual
def Sh.okB :Sh→Bool
 | .fn _ l=>l.allBox&&l.okB
 | .box _ l=>l.okB
 | .val _=>true
 | .own _ _=>true
 | .mv _ _=>true
 | .rcd l=>l.flat&&l.okB
def Shs.okB :Shs→Bool
 | .nil=>true
 | .cons s l=>s.okB&&l.okB
end
mutual
theorem vP1 :∀{s:Sh} {x:s.T.D} {n k:Nat},s.okB=true→s.cnt≤k → ∃y,s.mk (List.range' n k) x=some y
 | .val t,x,n,k,_,_=>⟨_,rfl⟩
 | .own e t,x,n,k+1,_,_=>⟨_,rfl⟩
 | .mv e t,x,n,k+1,_,_=>⟨_,rfl⟩
 | .box T sh,x,n,k+1,h,hk=>by obtain⟨y,hy⟩:=qT (s:=sh) (x:=x) (n:=n+1) (k:=k) h (by simp only[Sh.cnt]at hk;omega);simp only[Sh.mk,cI2,hy];exact⟨_,rfl⟩
 | .fn f sh,x,n,k,h,hk=>by simp only[Sh.okB,iE2]at h;obtain⟨y,hy⟩:=qT (s:=sh) (x:=x) (n:=n) (k:=k) h.2 hk;simp only[Sh.mk,h.1,if_true,hy];exact⟨_,rfl⟩
 | .rcd sh,x,n,k,h,hk=>by simp only[Sh.okB,iE2]at h;obtain⟨y,hy⟩:=qT (s:=sh) (x:=x) (n:=n) (k:=k) h.2 hk;simp only[Sh.mk,h.1,if_true,hy];exact⟨_,rfl⟩
 | .own _ _,_,_,0,_,hk=>by simp[Sh.cnt]at hk
 | .mv _ _,_,_,0,_,hk=>by simp[Sh.cnt]at hk
 | .box _ _,_,_,0,_,hk=>by simp[Sh.cnt]at hk
theorem qT :∀{s:Shs} {x:s.T.D} {n k:Nat},s.okB=true→s.cnt≤k → ∃y,s.mk (List.range' n k) x=some y
 | .nil,_,_,_,_,_=>⟨_,rfl⟩
 | .cons s l,x,n,k,h,hk=>by simp only[Shs.okB,iE2]at h;simp only[Shs.cnt]at hk;obtain⟨⟨c,ob,rest⟩,hy⟩:=vP1 (s:=s) (x:=x.1) (n:=n) (k:=k) h.1 (by omega);obtain⟨_,h2,_⟩:=oW hy;subst h2;obtain⟨⟨c2,ob2,rest2⟩,hy2⟩:=qT (s:=l) (x:=x.2) (n:=n+s.cnt) (k:=k-s.cnt) h.2 (by omega);simp only[Shs.mk,hy,hy2];exact⟨_,rfl⟩
end
theorem vT1 :∀{s:Shs} {x:s.T.D} {n:Nat} {c:List (Bool×List Lf)} {ob:List (Nat×Ob)} {rest:List Nat},s.mkA (List.range' n s.cnt) x=some (c,ob,rest)→rest=[]
 | s,x,n,c,ob,rest,h=>by
  have key:∀{s:Shs} {x:s.T.D} {n k:Nat} {c:List (Bool×List Lf)} {ob:List (Nat×Ob)} {rest:List Nat},s.mkA (List.range' n k) x=some (c,ob,rest)→rest=List.range' (n+s.cnt) (k-s.cnt):=by
   intro s
   induction s using Shs.rec (motive_1:=fun _=>True)with
   | nil=>intro x n k c ob rest h;simp only[Shs.mkA]at h;cases h;rfl
   | cons s l _ ih=>
    intro x n k c ob rest h;simp only[Shs.mkA]at h;split at h
    ·rename_i c1 ob1 m1 h1;split at h
     ·rename_i c2 ob2 m2 h2;cases h;obtain⟨_,h4,_⟩:=oW h1;subst h4;rw[ih h2];simp only[Shs.cnt]
      congr 1 <;> omega
     ·cases h
    ·cases h
   | _=>trivial
  rw[key h,Nat.sub_self];rfl
theorem jI1 :∀{s:Shs} {x:s.T.D} {n k:Nat},s.okB=true→s.cnt≤k → ∃y,s.mkA (List.range' n k) x=some y
 | .nil,_,_,_,_,_=>⟨_,rfl⟩
 | .cons s l,x,n,k,h,hk=>by simp only[Shs.okB,iE2]at h;simp only[Shs.cnt]at hk;obtain⟨⟨c,ob,rest⟩,hy⟩:=vP1 (s:=s) (x:=x.1) (n:=n) (k:=k) h.1 (by omega);obtain⟨_,h2,_⟩:=oW hy;subst h2;obtain⟨⟨c2,ob2,rest2⟩,hy2⟩:=jI1 (s:=l) (x:=x.2) (n:=n+s.cnt) (k:=k-s.cnt) h.2 (by omega);simp only[Shs.mkA,hy,hy2];exact⟨_,rfl⟩
def Shs.len :Shs→Nat
 | .nil=>0
 | .cons _ l=>l.len+1
theorem bI1 {w:World} {Z:Nat→Prop}:∀{s:Shs} {x:s.T.D} {vs:List Value} {bs:List Nat},s.RepA w Z x vs bs→vs.length=s.len
 | .nil,_,_,_,h=>by rw[h.1];rfl
 | .cons s l,_,_,_,⟨v,vs',c,d,e,_,_,h⟩=>by rw[e,iF2,bI1 h];rfl
structure CardOK (P:Program) (D:FnD) (c:Code):Prop where
 fn:∃fn,P.funcs[D.fid]?=some fn∧fn.body=some c∧(fn.name == "runtime.NumGoroutine")=false∧fn.ntmps=D.n∧fn.results.toList=D.rv
 body:D.body=some c
 cnt:D.par.cnt≤1000
 okB:D.par.okB=true
 len:D.par.len≤D.n
 wf:D.an.wf=true
 lab:nodupB (0::(places c D.an []).map (·.1))=true
section
variable {P : Program} {E : Env} {GB : Nat → Prop} {G : World → Prop} {w0 : World} {M Z0 : Nat → Prop} {γ0 : Nat → Value} {m : Nat} {D : FnD} {c : Code}
theorem rU {α:Type}:∀{l:List (Nat×α)} {n:Nat} {x:α},(l.map (·.1)).Nodup→(n,x)∈l→look l n=some x
 | [],_,_,_,h=>by cases h
 | (k,y)::l,n,x,hnd,h=>by
  simp only[qF2,vH2]at hnd;simp only[look];rcases pE2.1 h with h | h
  ·cases h;rw[if_pos (beqt.2 rfl)]
  ·have hne:¬k=n:=by rintro rfl;exact hnd.1 (kF2.2 ⟨_,h,rfl⟩)
   rw[if_neg (fun hb=>hne (beqt.1 hb))];exact rU hnd.2 h
theorem CardOK.code (hc:CardOK P D c):D.code 0=[.c c D.an] ∧ ∀i l,(i,l)∈places c D.an []→D.code i=l:=by
 have hnd:=bM hc.lab;obtain⟨h1,h2⟩:=vH2.1 hnd;refine⟨by simp[FnD.code,hc.body],fun i l h=>?_⟩;have hi:¬i=0:=by rintro rfl;exact h1 (kF2.2 ⟨_,h,rfl⟩)
 simp only[FnD.code,hc.body];rw[if_neg (fun hb=>hi (beqt.1 hb)),rU h2 h]
noncomputable def bS1 (E:Env) (ev:Ev E) (D:FnD) (go:Nat→St→Option (D.res.T.app D.par.inout.T).D) (i:Nat) (s:St):Option (D.res.T.app D.par.inout.T).D:=
 run E ev D.par.cnt 100000 go (fun s=>fin E D s) (D.code i) s
theorem mR1 (henv:kF P E=true) (hinl:E.inl=[]) (hmix:P.follows .mixedOrders=true) (hst:fL GB G) (hG:G w0) (hGB:∀b,GB b→b<w0.heap.size ∧ ¬M b) {ev:Ev E} (hev:EvOK P GB G E ev) (hc:CardOK P D c) {b:Frame} {cs:List Frame} {Post:Act→World→Prop}
  {go:Nat→St→Option (D.res.T.app D.par.inout.T).D} {r:(D.res.T.app D.par.inout.T).D}
  (hfi:∀s a w,fin E D s=some r→Good w0 M Z0 γ0 D.par.cnt s a w→Post a w)
  (hgo:∀i s l,(i,l)∈places c D.an []→go i s=some r → ∀a w,Good w0 M Z0 γ0 D.par.cnt s a w → ∀k,ItOK l k→Ends P b cs Post k a w)
  {i:Nat} {l:List It} (hl:(i=0∧l=[.c c D.an])∨(i,l)∈places c D.an []) {s:St} (h:bS1 E ev D go i s=some r) {a:Act} {w:World} (hg:Good w0 M Z0 γ0 D.par.cnt s a w) {k:List Item} (hk:ItOK l k):Ends P b cs Post k a w:=by
 obtain⟨h0,h1⟩:=hc.code;have hpos:Pos (places c D.an []) [.c c D.an]:=⟨fun _ hp=>hp,hc.wf,trivial⟩
 have hpl:=hK1 (T:=places c D.an []) c D.an [] hc.wf (fun _ hp=>hp) trivial;have hcode:D.code i=l∧Pos (places c D.an []) l:=by
  rcases hl with⟨rfl,rfl⟩ | hl
  ·exact⟨h0,hpos⟩
  ·exact⟨h1 i l hl,hpl i l hl⟩
 unfold bS1 at h;rw[hcode.1]at h;exact rO1 henv hinl hmix hst hG hGB hc.cnt hev hfi (fun i s l hm hgo' _ a w hg k hk=>hgo i s l hm hgo' a w hg k hk) hpl (fun s k s' a w h hg=>wB2 hc.cnt h hg) 100000 l k s a w h hk hcode.2 hg
def evOf (E:Env) (st:Ev E) (R:(f:Nat)→Nat→St→Option (E.resT f).D):Ev E:=fun g x=>match h:look E.fn g with
 | none=>none
 | some D=>match D.body with
  | none=>st g x
  | some _=>R g 0 (gU D (cast (by rw[Env.argT,h]) x))
noncomputable def rn (E:Env) (st:Ev E):Nat→(f:Nat)→Nat→St→Option (E.resT f).D
 | 0,_,_,_=>none
 | n+1,f,i,s=>match h:look E.fn f with
  | none=>none
  | some D=>cast (by rw[Env.resT,h]) (bS1 E (evOf E st (rn E st n)) D (fun i s=>cast (by rw[Env.resT,h]) (rn E st n f i s)) i s)
theorem lN1 {A B:Type} (h:A=B) {x:Option A} {r:A} (e:cast (by rw[h]) x=some (cast h r)):x=some r:=by subst h;exact e
theorem tJ1 {A B:Type} (h:A=B) {x:Option A} {r:B} (e:cast (by rw[h]) x=some r):x=some (cast h.symm r):=by subst h;exact e
theorem rS1 (hc:CardOK P D c) {x:D.par.T.D} {w:World} {Z:Nat→Prop} {args:List Value} {bs:List Nat} (hz:∀b,Z b→b<w.heap.size) (hnd:bs.Nodup) (hbs:∀b∈bs,¬Z b∧b<w.heap.size) (h:D.par.RepA w Z x args bs) (hsz:args.length≤D.n):
  ∃γ0,Good w (· ∈ bs) Z γ0 D.par.cnt (gU D x) { tmps:=args.toArray++Array.replicate (D.n-args.toArray.size) undef,defers:=[] } w ∧
   All2 (fun y v=>(∀w' Z' ob',SlotOK w' Z' γ0 ob' y v) ∧ ∀j,y.names j=true→j<D.par.cnt) (D.par.refP 0) (D.par.io args) ∧ ∃bx,D.par.inout.Bx w (D.par.io args) bx∧(aH D.par.inout.bxs (D.par.keep (upto D.par.cnt))).map γ0=bx.map ptrV:=by
 obtain⟨⟨cl,ob,rest⟩,hy⟩:=jI1 (s:=D.par) (x:=x) (n:=0) (k:=D.par.cnt) hc.okB (rE2 _);obtain⟨used,us,e1,h1,h2,h3,h4,h5⟩:=sP1 h hy;have hndu:used.Nodup:=by have:=vR D.par.cnt;rw[iM,e1]at this;exact(vG2.1 this).1
 have hmap:=sG1 (fun _=>undef) (vs:=us) hndu h1;obtain⟨γ0,hγ0⟩:∃γ0,γ0=upds (fun _=>undef) used us:=⟨_,rfl⟩
 rw[←hγ0]at hmap;obtain⟨h6,h7⟩:=h5 γ0 hmap;have hst:gU D x=⟨cl.map gS++List.replicate (D.n-cl.length) (.lf .un),ob,1000⟩:=by unfold gU;rw[iM,hy]
 have hlk:∀n o,look ob n=some o→(n,o)∈ob∧n∈used:=fun n o h=>⟨lK h,by rw[←h3];exact kF2.2 ⟨_,lK h,rfl⟩⟩
 refine⟨γ0,?_,pP1 hy h6 D.par.cnt (by omega),by
  have e2:upto D.par.cnt=used:=by have hl2:=congrArg List.length e1;rw[List.length_range',jE2]at hl2;have hr:rest=[]:=vT1 hy;rw[iM,e1,hr,zE2]
  obtain⟨hl3,bx,g1,g2⟩:=yU1 (w:=w) (Z:=Z) (γ:=γ0) hy h6 h7;rw[h3,←e2]at g2
  exact vX1 g1 g2 (by rw[e2,←h3,gG2,hl3])⟩
 rw[hst];have hlen:=All2.length h6;refine⟨⟨Z,γ0,⟨Frm.refl _ _,hz,fun b hb _=>.inl hb,fun n o h=>h7 n o (hlk n o h).1,?_,?_⟩,⟨by simp[hlen],fun i=>?_⟩,fun _ _=>rfl⟩,rE2 _,rfl⟩
 ·intro n m o o' b h h' hb hb';exact rW (l:=used) (by rw[hmap,h2];exact hnd) n m b (hlk n o h).2 (hlk m o' h').2 hb hb'
 ·intro n o b h hb;have:b∈bs:=by rw[←h2,←hmap];exact oM.2 ⟨n,(hlk n o h).2,hb⟩
  exact⟨(hbs b this).1,fun _=>this⟩
 ·simp only[oE2,iG2];by_cases hi:i<cl.length
  ·have hi2:i<args.length:=by omega
   rw[tF2 (by simpa using hi),hH2,sE2 hi,Array.getElem?_append_left (by simpa using hi2)];simp only[Option.map_some,zG2,List.getElem?_toArray,sE2 hi2];exact sQ (All2.get i cl[i] args[i] h6 (sE2 hi) (sE2 hi2))
  ·rw[yF2 (by simpa using hi),Array.getElem?_append_right (by simp;omega)];rw[List.getElem?_replicate,Array.getElem?_replicate];simp only[gG2,nH2,hlen];split <;> simp[SlotOK,LfOK]
variable (P GB G E) in
def mB2 (st:Ev E) (n:Nat):Prop:=∀f D c (hD:look E.fn f=some D),D.body=some c → ∀(w0:World) (M Z0:Nat→Prop) (γ0:Nat→Value) (b:Frame) (cs:List Frame) (Post:Act→World→Prop) (r:(D.res.T.app D.par.inout.T).D),G w0→(∀b,GB b→b<w0.heap.size ∧ ¬M b) →
 (∀s a w,fin E D s=some r→Good w0 M Z0 γ0 D.par.cnt s a w→Post a w) → ∀i l,((i=0∧l=[.c c D.an])∨(i,l)∈places c D.an []) → ∀s,rn E st n f i s=some (cast (by rw[Env.resT,hD]) r) →
 ∀a w,Good w0 M Z0 γ0 D.par.cnt s a w → ∀k,ItOK l k→Ends P b cs Post k a w
theorem lW (henv:kF P E=true) {st:Ev E} {n:Nat} (hcl:mB2 P E GB G st n) {f:Nat} (hD:look E.fn f=some D) (hc:CardOK P D c) {x:D.par.T.D} {r:(D.res.T.app D.par.inout.T).D}
  (h:rn E st n f 0 (gU D x)=some (cast (by rw[Env.resT,hD]) r)):FnB P GB G D x r:=by
 obtain⟨fn,hf1,hf2,hf3,hf4,hf5⟩:=hc.fn;refine⟨⟨fn,c,hf1,hf2,hf3⟩,fun w Z args bs hG hGB hz hnd hbs hrep=>?_⟩;obtain⟨γ0,hgood,hio,hid⟩:=rS1 hc hz hnd hbs hrep (by rw[bI1 hrep];exact hc.len);intro cs
 let b:Frame:={ (default:Frame)with fn:=D.fid,kind:=.normal }
 have henter:Frame.enter P D.fid args.toArray .normal=b.at { tmps:=args.toArray++Array.replicate (D.n-args.toArray.size) undef,defers:=[] } [.code c]:=by simp[Frame.enter,Frame.at,hf1,hf2,hf4,b]
 obtain⟨a',w',todo,hsteps,v,hd,hr,hback⟩:=hcl f D c hD hc.body w (· ∈ bs) Z γ0 b cs (fun a' w'=>∃v,a'.defers=[]∧(results fn a'.tmps).run P w' = .ok v w'∧Back D w Z args bs r v w') r hG hGB
  (fun s a' w' hfin hg=>by
   obtain⟨⟨Zf,γf,hi,hs,hγ⟩,_,hd⟩:=hg
   obtain⟨v,h1,h2⟩:=sZ1 henv hf5.symm hfin hi hs (args:=args) (All2.imp (fun y _ v h=>SlotOK.keep (Stay.refl w' Zf) (h.1 w' Zf s.ob) fun j hj=>⟨hγ j (h.2 j hj),fun E t xs hx=>⟨E,xs,hx,rfl⟩⟩) hio) (by
    obtain⟨bx,g1,g2⟩:=hid;refine⟨bx,g1,?_⟩;rw[←g2];refine oH2 fun j hj=>hγ j ?_
    have hj:=tA1 _ _ j (lV hj);rw[iM,List.mem_range']at hj
    omega)
   exact⟨v,hd,h1,h2⟩) 0 _ (.inl ⟨rfl,rfl⟩) _ h _ w hgood _ (.code .nil)
 rw[←henter]at hsteps;exact⟨.returned v,w',_,⟨v,rfl,hback⟩,hsteps,rfl,rfl,hd,rfl,fn,hf1,hr⟩
theorem cC1 (henv:kF P E=true) (hsel:uF1 P E) (hinl:E.inl=[]) (hmix:P.follows .mixedOrders=true) (hst:fL GB G) (hcards:∀f D c,look E.fn f=some D→D.body=some c→CardOK P D c) {st:Ev E}
  (hstub:∀f D (hD:look E.fn f=some D),D.body=none → ∀x r,st f x=some r→FnOK P GB G D (cast (by rw[Env.argT,hD]) x) (cast (by rw[Env.resT,hD]) r)):∀n,mB2 P E GB G st n
 | 0=>fun f D c hD hb w0 M Z0 γ0 b cs Post r hG hGB hfi i l hl s h=>by cases h
 | n+1=>fun f D c hD hb w0 M Z0 γ0 b cs Post r hG hGB hfi i l hl s h a w hg k hk=>by
  have ih:=cC1 henv hsel hinl hmix hst hcards hstub n;have hc:=hcards f D c hD hb;simp only[rn]at h;split at h
  ·simp at h
  ·rename_i D' hD';have e:D'=D:=oF2 (hD'.symm.trans hD);subst e;have hT:(D'.res.T.app D'.par.inout.T).D=(E.resT f).D:=by rw[Env.resT,hD]
   have h':=lN1 hT h;refine mR1 henv hinl hmix hst hG hGB ?_ hc hfi ?_ hl h' hg hk
   ·refine⟨hsel,fun g x r' hr' D2 hD2=>?_⟩;unfold evOf at hr';split at hr'
    ·cases hr'
    ·rename_i D3 hD3;have e3:D3=D2:=oF2 (hD3.symm.trans hD2);subst e3;split at hr'
     ·rename_i hnb;exact hstub g D3 hD2 hnb x r' hr'
     ·rename_i c3 hc3;refine .inl (lW henv ih hD2 (hcards g D3 c3 hD2 hc3) ?_);rw[hr'];simp
   ·intro j s' l' hm hgo a' w' hg' k' hk';exact ih f D' c hD hb w0 M Z0 γ0 b cs Post r hG hGB hfi j l' (.inr hm) s' (tJ1 hT.symm hgo) a' w' hg' k' hk'
end
def Conv {R:Type} (X:Nat→Option R) (x:Option R):Prop:=∀r,x=some r → ∃N,∀n,N≤n→X n=some r
theorem Conv.none {R:Type} (X:Nat→Option R):Conv X none:=fun _ h=>by cases h
theorem Conv.const {R:Type} (x:Option R):Conv (fun _=>x) x:=fun _ h=>⟨0,fun _ _=>h⟩
section
variable {E : Env} {R : Type}
theorem aP {X:Nat→Option R} {x:Option R} (h:Conv X x):∀g,Conv (fun n=>iQ g (X n)) (iQ g x)
 | []=>h
 | b::l=>by
  cases b with
  | true=>exact aP h l
  | false=>exact Conv.none _
theorem hI1 {ev:Nat→Ev E} {evw:Ev E} (hev:∀f x,Conv (fun n=>ev n f x) (evw f x)) {inl:Nat→FuncId→List Slot→St→(Slot→List (Nat×Ob)→Option R)→Option R} {inlw:FuncId→List Slot→St→(Slot→List (Nat×Ob)→Option R)→Option R}
  {K:Nat→St→Option R} {Kw:St→Option R} (hK:∀s,Conv (fun n=>K n s) (Kw s)) (s1:St) (d:Option Nat) (out:Out E) (hni:∀f x,out ≠ .inl f x):Conv (fun n=>out.cps (ev n) (inl n) s1 d (K n)) (out.cps evw inlw s1 d Kw):=by
 cases out with
 | go g x ob=>exact aP (hK _) g
 | br c x y=>cases c <;> exact hK _
 | call f x k=>
  intro r h;simp only[Out.cps,lF2]at h;obtain⟨r',h1,h2⟩:=h;obtain⟨N,hN⟩:=hev f x r' h1
  cases hk:k r' with
  | none=>rw[hk]at h2;cases h2
  | some p=>
   rw[hk]at h2;obtain⟨N2,hN2⟩:=hK _ r h2;refine⟨max N N2,fun n hn=>?_⟩;simp only[Out.cps,lF2];exact⟨r',hN n (by omega),by rw[hk];exact hN2 n (by omega)⟩
 | callN f x k q=>
  intro r h;simp only[Out.cps,lF2]at h;obtain⟨r',h1,h2⟩:=h;obtain⟨N,hN⟩:=hev f x r' h1
  have key:∀b:Bool,(match k ((q r').2 b)with | some (y,l)=>Kw ((s1.withOb (eI s1.ob l)).setd d y) | none=>none)=some r →
    ∃N2,∀n,N2≤n→(match k ((q r').2 b)with | some (y,l)=>K n ((s1.withOb (eI s1.ob l)).setd d y) | none=>none)=some r:=by
   intro b h3;cases hk:k ((q r').2 b)with
   | none=>rw[hk]at h3;cases h3
   | some p=>
    rw[hk]at h3;obtain⟨N2,hN2⟩:=hK _ r h3;exact⟨N2,fun n hn=>hN2 n hn⟩
  cases hb:(q r').1 with
  | true=>
   rw[hb,cond_true]at h2;obtain⟨N2,hN2⟩:=key true h2;refine⟨max N N2,fun n hn=>?_⟩;simp only[Out.cps,lF2];exact⟨r',hN n (by omega),by rw[hb,cond_true];exact hN2 n (by omega)⟩
  | false=>
   rw[hb,cond_false]at h2;obtain⟨N2,hN2⟩:=key false h2;refine⟨max N N2,fun n hn=>?_⟩;simp only[Out.cps,lF2];exact⟨r',hN n (by omega),by rw[hb,cond_false];exact hN2 n (by omega)⟩
 | inl f x=>exact absurd rfl (hni f x)
theorem dI1 {K:Nat→Option Nat→Option R} {Kw:Option Nat→Option R} (hK:∀q,Conv (fun n=>K n q) (Kw q)) {y:ByteArray}:∀l:List (ByteArray×Nat),Conv (fun n=>selK l y (K n)) (selK l y Kw)
 | []=>hK none
 | (c,off)::l=>by
  unfold selK;cases(y.toList==c.toList)with
  | true=>exact hK _
  | false=>exact dI1 hK l
theorem kT1 {K:Nat→Bool→Option R} {Kw:Bool→Option R} (hK:∀q,Conv (fun n=>K n q) (Kw q)) (g e:Bool):Conv (fun n=>nilK g e (K n)) (nilK g e Kw):=by
 cases g with
 | true=>exact hK _
 | false=>
  intro r h;have h:yW (Kw e) (Kw (!e))=some r:=h;unfold yW at h;split at h
  ·rename_i hq;obtain⟨N,hN⟩:=hK e r h;obtain⟨N2,hN2⟩:=hK (!e) r (hq ▸ h);refine⟨max N N2,fun n hn=>?_⟩;show yW (K n e) (K n (!e))=some r;have h1:K n e=some r:=hN n (by omega);have h2:K n (!e)=some r:=hN2 n (by omega);unfold yW;rw[h1,h2,if_pos rfl]
  ·cases h
theorem iN1 {ev:Nat→Ev E} {evw:Ev E} (hev:∀f x,Conv (fun n=>ev n f x) (evw f x)) {inl:Nat→FuncId→List Slot→St→(Slot→List (Nat×Ob)→Option R)→Option R} {inlw:FuncId→List Slot→St→(Slot→List (Nat×Ob)→Option R)→Option R}
  (hinl:E.inl=[]) {K:Nat→St→Option R} {Kw:St→Option R} (hK:∀s,Conv (fun n=>K n s) (Kw s)) (s:St) (o:Oper):Conv (fun n=>vM E (ev n) (inl n) s o (K n)) (vM E evw inlw s o Kw):=by
 have hcall:∀{s s1:St} {d:Option Nat} {f:FuncId} {xs:List Operand} {caps:List Slot} {out:Out E},jG E s d f xs caps=some (s1,out) → ∀f x,out ≠ .inl f x:=by intro s s1 d f xs caps out h f' x e;obtain⟨_,_,_,_,e2⟩:=pK hinl h;rw[e]at e2;rcases e2 with e2 | e2 <;> cases e2
 unfold vM
 cases hs:step E s o with
 | none=>
  dsimp only
  cases hiv:invk E s o with
  | none=>
   dsimp only
   cases selC E s o with
   | none=>
    dsimp only
    cases nilC E s o with
    | none=>exact Conv.none _
    | some q=>exact kT1 (fun q=>hK _) q.1 q.2
   | some q=>
    obtain⟨b,y,l⟩:=q;exact dI1 (fun q=>hK _) l
  | some q=>
   obtain⟨r,f,s0,xs⟩:=q;dsimp only;cases hc:jG E s0 o.dst f xs []with
   | none=>exact Conv.none _
   | some p=>
    obtain⟨s1,out⟩:=p;dsimp only;split
    ·exact hI1 hev (K:=fun n s'=>K n (s'.set r (.lf .u))) (Kw:=fun s'=>Kw (s'.set r (.lf .u))) (fun s=>hK _) s1 o.dst out (hcall hc)
    ·exact Conv.none _
 | some p=>
  obtain⟨s1,out⟩:=p;dsimp only;split
  ·refine hI1 hev hK s1 o.dst out ?_;rcases tJ hs with⟨g,x,ob,e⟩ | ⟨c,y,z,ho⟩ | ⟨c,y,ho,hc⟩
   ·rw[e];intro f x e2;cases e2
   ·simp only[step,ho]at hs;split at hs <;> cases hs;intro f x e2;cases e2
   ·cases y with
    | func f=>
     simp only[step,ho,hc]at hs;exact hcall hs
    | global g=>simp only[step,ho,hc,St.opnd]at hs;cases hs
    | tmp t=>
     simp only[step,ho,hc]at hs;split at hs
     ·split at hs
      ·exact hcall hs
      ·cases hs
     ·cases hs
    | const v=>
     simp only[step,ho,hc]at hs;split at hs
     ·split at hs
      ·exact hcall hs
      ·cases hs
     ·cases hs
  ·exact Conv.none _
theorem zH1 {ev:Nat→Ev E} {evw:Ev E} (hev:∀f x,Conv (fun n=>ev n f x) (evw f x)) {inl:Nat→FuncId→List Slot→St→(Slot→List (Nat×Ob)→Option R)→Option R} {inlw:FuncId→List Slot→St→(Slot→List (Nat×Ob)→Option R)→Option R}
  (hinl:E.inl=[]) {ops:Array Oper} {K:Nat→St→Option R} {Kw:St→Option R} (hK:∀s,Conv (fun n=>K n s) (Kw s)):∀(l:List Oper) (s:St),Conv (fun n=>opsK E (ev n) (inl n) ops l s (K n)) (opsK E evw inlw ops l s Kw)
 | [],s=>hK s
 | o::l,s=>by
  have ih:=zH1 hev (inl:=inl) (inlw:=inlw) hinl (ops:=ops) hK l;have hs:=fun s=>iN1 hev (inl:=inl) (inlw:=inlw) hinl ih s o
  simp only[opsK]
  cases o.guard with
  | none=>exact hs s
  | some jw=>
   obtain⟨j,want⟩:=jw;dsimp only;split
   ·split
    ·exact ih _
    ·rename_i c _;cases c <;> cases want <;> first | exact hs _ | exact ih _
    ·exact Conv.none _
   ·exact Conv.none _
theorem mL1 {ev:Nat→Ev E} {evw:Ev E} (hev:∀f x,Conv (fun n=>ev n f x) (evw f x)) {K:Nat→St→Ent→Option R} {Kw:St→Ent→Option R} (hK:∀s e,Conv (fun n=>K n s e) (Kw s e)) (s:St) (o:Oper):Conv (fun n=>sR E (ev n) s o (K n)) (sR E evw s o Kw):=by
 unfold sR
 cases hs:step E s o with
 | none=>exact Conv.none _
 | some p=>
  obtain⟨s1,out⟩:=p;dsimp only;split
  ·cases out with
   | go g x ob=>
    dsimp only;split
    ·exact aP (hK _ _) g
    ·exact Conv.none _
   | br c x y=>cases c <;> exact hK _ _
   | call f x k=>
    dsimp only;split
    ·intro r h;rw[lF2]at h;obtain⟨r',h1,h2⟩:=h;obtain⟨N,hN⟩:=hev f x r' h1
     cases hk:k r' with
     | none=>rw[hk]at h2;cases h2
     | some p=>
      rw[hk]at h2;obtain⟨N2,hN2⟩:=hK _ _ r h2;refine⟨max N N2,fun n hn=>?_⟩;rw[lF2];exact⟨r',hN n (by omega),by rw[hk];exact hN2 n (by omega)⟩
    ·exact Conv.none _
   | callN f x k q=>exact Conv.none _
   | inl f x=>exact Conv.none _
  ·exact Conv.none _
theorem zS1 {ev:Nat→Ev E} {evw:Ev E} (hev:∀f x,Conv (fun n=>ev n f x) (evw f x)) {ops:Array Oper} {K:Nat→St→Ent→Option R} {Kw:St→Ent→Option R} (hK:∀s e,Conv (fun n=>K n s e) (Kw s e)) (s:St) (o:Oper):Conv (fun n=>opE E (ev n) ops o s (K n)) (opE E evw ops o s Kw):=by
 have hs:=fun s=>mL1 hev hK s o
 simp only[opE]
 cases o.guard with
 | none=>exact hs s
 | some jw=>
  obtain⟨j,want⟩:=jw;dsimp only;split
  ·split
   ·exact hK _ _
   ·rename_i c _;cases c <;> cases want <;> first | exact hs _ | exact hK _ _
   ·exact Conv.none _
  ·exact Conv.none _
theorem lY {ev:Nat→Ev E} {evw:Ev E} (hev:∀f x,Conv (fun n=>ev n f x) (evw f x)) {ops:Array Oper} {K:Nat→St→Option R} {Kw:St→Option R} (hK:∀s,Conv (fun n=>K n s) (Kw s)):
  ∀(l:List Oper) (acc:List Nat) (s:St) (lg:List (Nat×Oper×Ent)) (hw:Bool),Conv (fun n=>fG1 E (ev n) ops l acc s lg hw (K n)) (fG1 E evw ops l acc s lg hw Kw)
 | [],acc,s,lg,hw=>hK s
 | o::l,acc,s,lg,hw=>by
  have ih:=lY hev (ops:=ops) hK l;simp only[fG1];refine zS1 hev (fun s' e=>?_) s o;split
  ·exact ih _ _ _ _
  ·exact Conv.none _
theorem iL1 {ev:Nat→Ev E} {evw:Ev E} (hev:∀f x,Conv (fun n=>ev n f x) (evw f x)) {ops:Array Oper} {K:Nat→St→Option R} {Kw:St→Option R} (hK:∀s,Conv (fun n=>K n s) (Kw s)) (s:St):
  Conv (fun n=>jG1 E (ev n) ops s (K n)) (jG1 E evw ops s Kw):=by
 unfold jG1;split
 ·exact lY hev hK _ _ _ _ _
 ·exact Conv.none _
theorem aA1 {ev:Nat→Ev E} {evw:Ev E} (hev:∀f x,Conv (fun n=>ev n f x) (evw f x)) (hinl:E.inl=[]) {m:Nat} {go:Nat→Nat→St→Option R} {gow:Nat→St→Option R} (hgo:∀i s,Conv (fun n=>go n i s) (gow i s)) {fi:St→Option R}:
  ∀(k:Nat) (l:List It) (s:St),Conv (fun n=>run E (ev n) m k (go n) fi l s) (run E evw m k gow fi l s)
 | 0,l,s=>by cases l <;> exact Conv.none _
 | k+1,[],s=>Conv.const _
 | k+1,.endB _::l,s=>aA1 hev hinl hgo k l s
 | k+1,.c x a::l,s=>by
  have ih:=aA1 hev hinl (m:=m) hgo (fi:=fi) k
  cases a with
  | at_ i kp an=>
   simp only[run];split
   ·exact hgo _ _
   ·exact Conv.none _
  | _=>
   simp only[run]
   cases x with
   | region id ops draw=>
    dsimp only;split
    ·exact iL1 hev (fun s=>ih l s) s
    ·exact zH1 hev hinl (fun s=>ih l s) ops.toList s
   | cond c x y=>
    dsimp only;split
    ·rename_i b _;cases c <;> cases b <;> exact ih _ _
    ·exact Conv.none _
   | exit id=>
    dsimp only;split
    ·exact ih _ _
    ·exact Conv.none _
   | ret=>exact Conv.const _
   | skip=>exact ih _ _
   | seq x y=>exact ih _ _
   | block id x=>exact ih _ _
   | _=>exact Conv.none _
theorem xB1 {A B:Type} (h:A=B) {X:Nat→Option A} {x:Option A} (hx:Conv X x):Conv (fun n=>cast (congrArg Option h) (X n)) (cast (congrArg Option h) x):=by subst h;exact hx
theorem yX1 {st:Ev E} {X:Nat→(f:Nat)→Nat→St→Option (E.resT f).D} {Y:(f:Nat)→Nat→St→Option (E.resT f).D} (h:∀f i s,Conv (fun n=>X n f i s) (Y f i s)) (f:Nat) (x:(E.argT f).D):Conv (fun n=>evOf E st (X n) f x) (evOf E st Y f x):=by
 unfold evOf;split
 ·exact Conv.none _
 ·split
  ·exact Conv.const _
  ·exact h _ _ _
noncomputable def rnd (E:Env) (st:Ev E) (Y:(f:Nat)→Nat→St→Option (E.resT f).D) (f:Nat) (i:Nat) (s:St):Option (E.resT f).D:=match h:look E.fn f with
 | none=>none
 | some D=>cast (by rw[Env.resT,h]) (bS1 E (evOf E st Y) D (fun i s=>cast (by rw[Env.resT,h]) (Y f i s)) i s)
theorem pM1 (st:Ev E) (n f i:Nat) (s:St):rn E st (n+1) f i s=rnd E st (rn E st n) f i s:=rfl
theorem wA1 (hinl:E.inl=[]) {st:Ev E} {X:Nat→(f:Nat)→Nat→St→Option (E.resT f).D} {Y:(f:Nat)→Nat→St→Option (E.resT f).D} (h:∀f i s,Conv (fun n=>X n f i s) (Y f i s)) (f i:Nat) (s:St):
  Conv (fun n=>rnd E st (X n) f i s) (rnd E st Y f i s):=by
 unfold rnd;split
 ·exact Conv.none _
 ·rename_i D hD;have hT:(E.resT f).D=(D.res.T.app D.par.inout.T).D:=by rw[Env.resT,hD]
  exact xB1 hT.symm (aA1 (yX1 h) hinl (fun i s=>xB1 hT (h f i s)) _ _ _)
theorem nP1 (hinl:E.inl=[]) (st:Ev E):∀n f i s r,rn E st n f i s=some r→rn E st (n+1) f i s=some r
 | 0,f,i,s,r,h=>by cases h
 | n+1,f,i,s,r,h=>by have ih:=nP1 hinl st n;rw[pM1]at h ⊢;obtain⟨N,hN⟩:=wA1 hinl (X:=fun _=>rn E st (n+1)) (Y:=rn E st n) (fun f i s r h=>⟨0,fun _ _=>ih f i s r h⟩) f i s r h;exact hN N (rE2 _)
theorem gW1 (hinl:E.inl=[]) (st:Ev E) {n n' f i:Nat} {s:St} {r:(E.resT f).D} (h:rn E st n f i s=some r) (hn:n≤n'):rn E st n' f i s=some r:=by
 induction n' with
 | zero=>have:n=0:=by omega
         subst this;exact h
 | succ k ih=>
  by_cases hk:n≤k
  ·exact nP1 hinl st k f i s r (ih hk)
  ·have:n=k+1:=by omega
   subst this;exact h
open Classical in
/-- What a place of code comes to. -/
noncomputable def pl (E:Env) (st:Ev E) (f i:Nat) (s:St):Option (E.resT f).D:=if h:∃n r,rn E st n f i s=some r then rn E st (Classical.choose h) f i s else none
theorem aR (hinl:E.inl=[]) {st:Ev E} {f i:Nat} {s:St} {r:(E.resT f).D}:pl E st f i s=some r ↔ ∃n,rn E st n f i s=some r:=by
 unfold pl;constructor
 ·intro h;split at h
  ·exact⟨_,h⟩
  ·cases h
 ·rintro⟨n,h⟩;have hx:∃n r,rn E st n f i s=some r:=⟨n,r,h⟩
  rw[dif_pos hx];obtain⟨r',h'⟩:=Classical.choose_spec hx;have h1:=gW1 hinl st h (Nat.le_max_left n (Classical.choose hx));have h2:=gW1 hinl st h' (Nat.le_max_right n (Classical.choose hx));rw[h1]at h2;rw[h',h2]
theorem fX1 (hinl:E.inl=[]) (st:Ev E) (f i:Nat) (s:St):Conv (fun n=>rn E st n f i s) (pl E st f i s):=fun r h=>by obtain⟨n,hn⟩:=(aR hinl).1 h;exact⟨n,fun k hk=>gW1 hinl st hn hk⟩
theorem zZ1 (hinl:E.inl=[]) (st:Ev E) (f i:Nat) (s:St):pl E st f i s=rnd E st (pl E st) f i s:=by
 apply Option.ext;intro r;constructor
 ·intro h;obtain⟨n,hn⟩:=(aR hinl).1 h
  cases n with
  | zero=>cases hn
  | succ n=>
   rw[pM1]at hn;obtain⟨N,hN⟩:=wA1 hinl (X:=fun _=>pl E st) (Y:=rn E st n) (fun f i s r h=>⟨0,fun _ _=>(aR hinl).2 ⟨n,h⟩⟩) f i s r hn;exact hN N (rE2 _)
 ·intro h;obtain⟨N,hN⟩:=wA1 hinl (fX1 hinl st) f i s r h;exact(aR hinl).2 ⟨N+1,hN N (rE2 _)⟩
theorem oU1 {P:Program} {GB:Nat→Prop} {G:World→Prop} (henv:kF P E=true) (hsel:uF1 P E) (hinl:E.inl=[]) (hmix:P.follows .mixedOrders=true) (hst:fL GB G) (hcards:∀f D c,look E.fn f=some D→D.body=some c→CardOK P D c) {st:Ev E}
  (hstub:∀f D (hD:look E.fn f=some D),D.body=none → ∀x r,st f x=some r→FnOK P GB G D (cast (by rw[Env.argT,hD]) x) (cast (by rw[Env.resT,hD]) r))
  {f:Nat} {D:FnD} {c:Code} (hD:look E.fn f=some D) (hc:D.body=some c) {x:D.par.T.D} {r:(D.res.T.app D.par.inout.T).D} (h:pl E st f 0 (gU D x)=some (cast (by rw[Env.resT,hD]) r)):FnB P GB G D x r:=by
 obtain⟨n,hn⟩:=(aR hinl).1 h;exact lW henv (cC1 henv hsel hinl hmix hst hcards hstub n) hD (hcards f D c hD hc) hn
end
end Go.GV
