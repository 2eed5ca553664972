/-
Part of the words that MeetSpans is proved with: no statement of its own, no conditions.
-/
import Derived.Test.YtegmfagkklekaaaGreatDoorFMeetSpansb
set_option linter.unusedVariables false
set_option linter.unusedSimpArgs false
namespace Go.GV
def upd (γ:Nat→Value) (d:Nat) (v:Value):Nat→Value:=fun n=>if n=d then v else γ n
theorem qJ {γ:Nat→Value} {d n:Nat} {v:Value} (h:n≠d):upd γ d v n=γ n:=if_neg h
theorem eE {γ:Nat→Value} {d:Nat} {v:Value}:upd γ d v d=v:=if_pos rfl
section
variable {P : Program} {E : Env} {w0 w w' : World} {M Z0 Z Z' : Nat → Prop} {γ γ' : Nat → Value} {s s1 : St} {a : Act} {o : Oper} {g : List Bool} {x : Slot} {ob' : List (Nat × Ob)}
theorem aL1 {s:St} {o:Oper} (h:1000≤s.b):1000≤s.id o.dst:=by unfold St.id;split <;> omega
theorem iT {d n:Nat} {b:Ob} (h:s.fresh d=true) (hl:look s.ob n=some b):n≠d∧b.names d=false:=by simp only[St.fresh,iE2,bG2,List.any_eq_false,kG2,not_or]at h;have:=h.1 _ (lK hl);exact⟨fun e=>this.1 (beqt.2 e),by simpa using this.2⟩
theorem mT {d i:Nat} (h:s.fresh d=true):(s.sl.getD i (.lf .u)).names d=false:=by
 simp only[St.fresh,iE2,bG2,List.any_eq_false]at h;rw[oE2]
 cases hx:s.sl[i]? with
 | none=>rfl
 | some y=>simpa using h.2 y (List.mem_of_getElem? hx)
theorem yR {n b:Nat} {ob:Ob} (h:ObOK w Z γ n ob) (hb:blkV (γ n)=some b):b<w.heap.size:=by
 cases ob with
 | row E t xs=>
  obtain⟨cs,h1,_⟩:=h;rcases h1.2 with⟨h2,_⟩ | ⟨g,cap,cur,h2,_,hg,_⟩
  ·rw[h2]at hb;cases hb
  ·rw[h2]at hb;cases hb;exact(eG2.1 hg).1
 | box T l=>
  obtain⟨g,cur,h2,hg,_⟩:=h;rw[h2]at hb;cases hb;exact(eG2.1 hg).1
theorem hP1 {e:TypeId} {z n:Nat} {v:Value} {cs:List Value} (h:w.ownsRow 0 e z v n cs) (hb:∀k,blkV v=some k→w'.heap[k]?=w.heap[k]?):w'.ownsRow 0 e z v n cs:=by
 refine⟨h.1,?_⟩;rcases h.2 with h2 | ⟨g,cap,cur,h2,h3,h4,h5⟩
 ·exact .inl h2
 ·refine .inr ⟨g,cap,cur,h2,h3,?_,h5⟩;rw[hb g (by rw[h2];rfl)];exact h4
theorem ObOK.keep {n:Nat} {b:Ob} (h:ObOK w Z γ n b) (hs:Stay w w' Z Z') (hb:∀k,blkV (γ n)=some k→w'.heap[k]?=w.heap[k]?) (hn:γ' n=γ n) (hn2:∀m,b.names m=true→γ' m=γ m):ObOK w' Z' γ' n b:=by
 cases b with
 | row E t xs=>
  obtain⟨cs,h1,h2⟩:=h;exact⟨cs,by rw[hn];exact hP1 h1 hb,RepL.imp (fun _ _ h=>Ty.Rep.stay hs h) h2⟩
 | box T l=>
  obtain⟨g,cur,h1,h2,h3⟩:=h;exact⟨g,cur,hn.trans h1,by rw[hb g (by rw[h1];rfl)];exact h2,LfsOK.keep hs h3 hn2⟩
theorem tL (hi:Inv w0 M Z0 w Z γ s.ob) {tm:Array Value} (hs:SlotsOK w Z γ s.ob s.sl tm) {d:Nat} (hf:s.fresh d=true) {N:Nat→Prop} (hfrm:Frm N w w') {ob1:List (Nat×Ob)}
  (hob1:∀n b,look ob1 n=some b→look s.ob n=some b) (hN:∀k,N k → ¬Z k∧(k<w0.heap.size→M k) ∧ ∀n b,look ob1 n=some b→blkV (γ n)≠some k)
  {v:Value} {b:Ob} (hnew:ObOK w' Z (upd γ d v) d b) (hb:∀k,blkV v=some k→N k∨w.heap.size≤k):
  Inv w0 M Z0 w' Z (upd γ d v) (put ob1 d b)∧SlotsOK w' Z (upd γ d v) (put ob1 d b) s.sl tm:=by
 have hst:Stay w w' Z Z:=Stay.of_block fun k hk=>⟨hk,hfrm.block k (hi.zlt k hk) fun hn=>(hN k hn).1 hk⟩
 have hlk:∀n c,look (put ob1 d b) n=some c→(n=d∧c=b)∨(n≠d∧look ob1 n=some c):=by
  intro n c h;rw[zF]at h;by_cases hn:d=n
  ·rw[if_pos hn]at h;cases h;exact .inl ⟨hn.symm,rfl⟩
  ·rw[if_neg hn]at h;exact .inr ⟨Ne.symm hn,h⟩
 refine⟨⟨hi.frm.trans hfrm fun k hk hn=>(hN k hn).2.1 hk,fun b hb=>uF2 (hi.zlt b hb) hfrm.size,hi.zold,?_,?_,?_⟩,⟨hs.len,fun i=>?_⟩⟩
 ·intro n c h;rcases hlk n c h with⟨rfl,rfl⟩ | ⟨hn,h⟩
  ·exact hnew
  ·have h1:=hob1 n c h;have h2:=hi.obs n c h1
   exact h2.keep hst (fun k hk=>hfrm.block k (yR h2 hk) fun hx=>(hN k hx).2.2 n c h hk) (qJ hn) fun m hm=>qJ (by
    rintro rfl;rw[(iT hf h1).2]at hm
    cases hm)
 ·intro n m c c' k h h' hk hk';rcases hlk n c h with⟨e1,e2⟩ | ⟨hn,h1⟩ <;> rcases hlk m c' h' with⟨e3,e4⟩ | ⟨hm,h2⟩
  ·rw[e1,e3]
  ·exfalso;rw[e1,eE]at hk;rw[qJ hm]at hk';rcases hb k hk with h3 | h3
   ·exact(hN k h3).2.2 m c' h2 hk'
   ·exact absurd (yR (hi.obs m c' (hob1 m c' h2)) hk') (by omega)
  ·exfalso;rw[e3,eE]at hk';rw[qJ hn]at hk;rcases hb k hk' with h3 | h3
   ·exact(hN k h3).2.2 n c h1 hk
   ·exact absurd (yR (hi.obs n c (hob1 n c h1)) hk) (by omega)
  ·rw[qJ hn]at hk;rw[qJ hm]at hk';exact hi.disj n m c c' k (hob1 n c h1) (hob1 m c' h2) hk hk'
 ·intro n c k h hk;rcases hlk n c h with⟨rfl,rfl⟩ | ⟨hn,h⟩
  ·rw[eE]at hk;rcases hb k hk with h3 | h3
   ·exact⟨(hN k h3).1,(hN k h3).2.1⟩
   ·exact⟨fun hz=>absurd (hi.zlt k hz) (by omega),fun hlt=>absurd hi.frm.size (by omega)⟩
  ·rw[qJ hn]at hk;exact hi.own n c k (hob1 n c h) hk
 ·refine SlotOK.keep hst (hs.ok i) fun n hn=>?_
  have hnd:n≠d:=by rintro rfl;rw[mT hf]at hn;cases hn
  refine⟨qJ hnd,fun E t xs h=>?_⟩;rcases hlk n _ h with⟨h1,_⟩ | ⟨_,h⟩
  ·exact absurd h1 hnd
  ·exact⟨E,xs,hob1 n _ h,rfl⟩
theorem qK (hi:Inv w0 M Z0 w Z γ s.ob) {tm:Array Value} (hs:SlotsOK w Z γ s.ob s.sl tm) {n:Nat} {b0 b:Ob} (hl:look s.ob n=some b0) (hfrm:Frm (fun k=>blkV (γ n)=some k) w w')
  (hnew:ObOK w' Z γ n b) (hlen:∀E t xs,b = .row E t xs → ∃E' ys,b0 = .row E' t ys∧ys.length=xs.length):
  Inv w0 M Z0 w' Z γ (put s.ob n b)∧SlotsOK w' Z γ (put s.ob n b) s.sl tm:=by
 have hst:Stay w w' Z Z:=Stay.of_block fun k hk=>⟨hk,hfrm.block k (hi.zlt k hk) fun hn=>(hi.own n b0 k hl hn).1 hk⟩
 have hlk:∀m c,look (put s.ob n b) m=some c→(m=n∧c=b)∨(m≠n∧look s.ob m=some c):=by
  intro m c h;rw[zF]at h;by_cases hn:n=m
  ·rw[if_pos hn]at h;cases h;exact .inl ⟨hn.symm,rfl⟩
  ·rw[if_neg hn]at h;exact .inr ⟨Ne.symm hn,h⟩
 have hlk':∀m c,look (put s.ob n b) m=some c → ∃c',look s.ob m=some c':=by
  intro m c h;rcases hlk m c h with⟨rfl,_⟩ | ⟨_,h⟩
  ·exact⟨b0,hl⟩
  ·exact⟨c,h⟩
 refine⟨⟨hi.frm.trans hfrm fun k hk hn=>(hi.own n b0 k hl hn).2 hk,fun b hb=>uF2 (hi.zlt b hb) hfrm.size,hi.zold,?_,?_,?_⟩,⟨hs.len,fun i=>?_⟩⟩
 ·intro m c h;rcases hlk m c h with⟨rfl,rfl⟩ | ⟨hn,h⟩
  ·exact hnew
  ·have h2:=hi.obs m c h;exact h2.keep hst (fun k hk=>hfrm.block k (yR h2 hk) fun hx=>hn (hi.disj m n c b0 k h hl hk hx)) rfl fun _ _=>rfl
 ·intro m m' c c' k h h' hk hk';obtain⟨_,h1⟩:=hlk' m c h;obtain⟨_,h2⟩:=hlk' m' c' h';exact hi.disj m m' _ _ k h1 h2 hk hk'
 ·intro m c k h hk;obtain⟨_,h1⟩:=hlk' m c h;exact hi.own m _ k h1 hk
 ·refine SlotOK.keep hst (hs.ok i) fun m _=>⟨rfl,fun E t xs h=>?_⟩
  rcases hlk m _ h with⟨rfl,h1⟩ | ⟨_,h⟩
  ·obtain⟨E',ys,h2,h3⟩:=hlen E t xs h1.symm;exact⟨E',ys,h2 ▸ hl,h3⟩
  ·exact⟨E,xs,h,rfl⟩
theorem gK1 {d:Nat} {y:Operand} {z:Slot} (h:s.opnd y=some z) (hf:s.fresh d=true):z.names d=false:=by
 cases y with
 | tmp t=>simp only[St.opnd,St.get_def]at h;cases h;exact mT hf
 | const v=>
  simp only[St.opnd,St.get_def,sU1]at h;split at h <;> cases h <;> rfl
 | func f=>
  simp only[St.opnd,St.get_def]at h;split at h <;> cases h;rfl
 | global n=>cases h
theorem jF1 {z:Slot} {c:List Lf} (h:z.cells=some c) (n:Nat):c.any (Lf.names n)=z.names n:=by
 cases z with
 | lf d=>
  simp only[Slot.cells]at h;split at h
  ·cases h;simp[Slot.names]
  ·cases h
 | ag l=>
  simp only[Slot.cells]at h;split at h
  ·cases h;rfl
  ·cases h
 | _=>cases h
theorem gO1 (hi:Inv w0 M Z0 w Z γ s.ob) (hs:SlotsOK w Z γ s.ob s.sl a.tmps) {d:Nat} (hf:s.fresh d=true) {T:TypeId} {l:List Lf} {cs:Array Value} (hl:All2 (LfOK w Z γ) l cs.toList) (hln:∀n,l.any (Lf.names n)=true→n≠d) (hd:1000≤s.b→1000≤d)
  (hr:(execOp a.eval o).run P w = .ok (.value (.pointer (some ⟨w.heap.size,0,none⟩))) (w.alloc (.cells cs T))):Does P w0 M Z0 w γ a o s (.lf (.p d 0)) (put s.ob d (.box T l)):=by
 have hst:Stay w (w.alloc (.cells cs T)) Z Z:=Stay.of_block fun k hk=>⟨hk,(Frm.alloc w _).block k (hi.zlt k hk) fun h=>h⟩
 have hm:=tL (v:=.pointer (some ⟨w.heap.size,0,none⟩)) (b:=.box T l) hi hs hf (Frm.alloc w (.cells cs T)) (ob1:=s.ob) (fun _ _ h=>h) (fun _ h=>h.elim)
  ⟨w.heap.size,cs,eE,heap_alloc_new w _,LfsOK.keep hst hl fun n hn=>qJ (hln n hn)⟩ (fun k hk=>.inr (by cases hk;exact rE2 _))
 exact⟨_,_,Z,_,.inl hr,hm.1,⟨w.heap.size,eE,rfl⟩,hm.2,fun hb n hn=>qJ (by have:=hd hb;omega)⟩
theorem wS1 :∀(t:Ty) (n:Nat),t.zl.any (Lf.names n)=false:=by
 intro t;apply Ty.rec (motive_1:=fun t=>∀n,t.zl.any (Lf.names n)=false) (motive_2:=fun ts=>∀n,ts.zl.any (Lf.names n)=false) <;> intros <;> first | rfl | skip
 ·rename_i ih n;exact ih n
 ·rename_i ih1 ih2 n;simp only[Tys.zl,List.any_append,ih1,ih2];rfl
theorem fL1 (henv:kF P E=true) {T:TypeId} (ho:o.op = .alloc T) (h:step E s o=some (s1,.go g x ob')) (hi:Inv w0 M Z0 w Z γ s.ob) (hs:SlotsOK w Z γ s.ob s.sl a.tmps):Does P w0 M Z0 w γ a o s1 x ob':=by
 have hrun:∀i z,P.info? T=some i→i.zero=some z→(execOp a.eval o).run P w = .ok (.value (.pointer (some ⟨w.heap.size,0,none⟩))) (w.alloc (.cells z.cells T)):=by intro i z h1 h2;simp[execOp,ho,Instr.alloc,zeroValue,typeInfo,h1,h2,newVar,newRow]
 simp only[step,ho]at h;split at h
 ·rename_i t ht;split at h
  ·rename_i hf;cases h;obtain⟨i,h1,h2⟩:=aG (uE henv ht);obtain⟨_,_,z,hz,_,hzl,_⟩:=aF (w:=w) (Z:=Z) γ h2;exact gO1 hi hs hf hzl (fun n hn=>by rw[wS1]at hn;cases hn) (fun hb=>aL1 hb) (hrun i z h1 hz)
  ·cases h
 ·rename_i ht;split at h
  ·rename_i hf;cases h;simp only[iE2,decide_eq_true_eq]at hf;obtain⟨hh,hf⟩:=hf;unfold Env.has Env.cell at hh;simp only[ht]at hh
   cases ho1:look E.one T with
   | none=>simp[ho1]at hh
   | some b=>
    obtain⟨_,i,z,h1,h2,h3⟩:=jY (jN henv ho1);refine gO1 hi hs hf (cs:=z.cells) ?_ (fun n hn=>by simp[Lf.names]at hn) (fun hb=>aL1 hb) (hrun i z h1 h2)
    cases hz:z.cells.toList with
    | nil=>have:=congrArg List.length hz;simp[h3]at this
    | cons c r=>
     cases r with
     | nil=>exact⟨trivial,trivial⟩
     | cons _ _=>have:=congrArg List.length hz;simp[h3]at this
  ·cases h
theorem lS1 {T:TypeId} {y:Operand} (ho:o.op = .box T y) (h:step E s o=some (s1,.go g x ob')) (hi:Inv w0 M Z0 w Z γ s.ob) (hs:SlotsOK w Z γ s.ob s.sl a.tmps):Does P w0 M Z0 w γ a o s1 x ob':=by
 simp only[step,ho]at h;split at h
 ·rename_i z hz;split at h
  ·rename_i c hc;split at h
   ·split at h
    ·rename_i hf;cases h;simp only[iE2,decide_eq_true_eq]at hf;have hsl:=gG hz hs;obtain⟨h1,_⟩:=nL hsl hc;refine gO1 hi hs hf.2 h1 (fun n hn=>?_) (fun hb=>aL1 hb) ?_
     ·rw[jF1 hc n]at hn;rintro rfl;rw[gK1 hz hf.2]at hn;cases hn
     ·simp[execOp,ho,Instr.box,newVar,newRow]
    ·cases h
   ·cases h
  ·cases h
 ·cases h
theorem iI1 {l m l':List Lf} {off:Nat} {cs ds:List Value} (h:vJ1 l off m=some l') (hl:All2 (LfOK w Z γ) l cs) (hm:All2 (LfOK w Z γ) m ds):
  off+ds.length≤cs.length∧All2 (LfOK w Z γ) l' (cs.take off++ds++cs.drop (off+ds.length)):=by
 unfold vJ1 at h;split at h
 ·rename_i hf;cases h;rw[All2.length hl,All2.length hm]at hf;refine⟨hf,?_⟩;have h1:=All2.length hm;rw[h1];exact All2.append (All2.append (All2.take _ hl) hm) (All2.drop _ hl)
 ·cases h
theorem sU {g':Nat} {cur:Array Value} {T:TypeId} (hg:w.heap[g']?=some (.cells cur T (0,0))) (n:Nat) (hn:γ n = .pointer (some ⟨g',0,none⟩) ∨ ∃l c,γ n = .slice (some ⟨g',0,none⟩) l c) (cs:Array Value):
  Frm (fun k=>blkV (γ n)=some k) w (w.setRow g' cs):=
 (Frm.setRow w g' cs).mono fun k _ hk=>by subst hk;rcases hn with hn | ⟨l,c,hn⟩ <;> rw[hn] <;> rfl
theorem oX1 (L z:List Value) (i off sz:Nat) (hL:i+sz≤L.length) (hz:off+z.length≤sz):
  L.take (i+off)++z++L.drop (i+off+z.length)=L.take i++(((L.drop i).take sz).take off++z++((L.drop i).take sz).drop (off+z.length))++L.drop (i+sz):=by
 have h1:L.take (i+off)=L.take i++((L.drop i).take sz).take off:=by rw[List.take_take,Nat.min_eq_left (by omega),List.take_add]
 have h2:L.drop (i+off+z.length)=((L.drop i).take sz).drop (off+z.length)++L.drop (i+sz):=by
  have:L.drop i=(L.drop i).take sz++L.drop (i+sz):=by rw[←List.drop_drop];exact(hG2 sz (L.drop i)).symm
  rw[Nat.add_assoc,←List.drop_drop]
  conv=>lhs;rw[this]
  rw[List.drop_append_of_le_length (by rw[fF2,fG2];omega)]
 rw[h1,h2];simp[uE2]
theorem bQ1 (cs tl z:List Value) (p:Nat) (h:p+z.length≤cs.length):
  (cs++tl).take p++z++(cs++tl).drop (p+z.length)=(cs.take p++z++cs.drop (p+z.length))++tl:=by
 rw[jG2 (l₁:=cs) (l₂:=tl) (by omega),List.drop_append_of_le_length (l₁:=cs) (l₂:=tl) h,←uE2]
theorem fK1 (henv:kF P E=true) {T:TypeId} {y z:Operand} (ho:o.op = .store T y z) (h:step E s o=some (s1,.go g x ob')) (hi:Inv w0 M Z0 w Z γ s.ob) (hs:SlotsOK w Z γ s.ob s.sl a.tmps):Does P w0 M Z0 w γ a o s1 x ob':=by
 simp only[step,ho]at h;split at h
 ·cases h
 ·rename_i ag n hc;have hct:=wZ henv hc;have hrun:∀g' off ty cur,a.eval y = .pointer (some ⟨g',off,none⟩)→w.heap[g']?=some (.cells cur ty (0,0))→(a.eval z).cells.size=n→off+n≤cur.size→(∀u∈(a.eval z).cells.toList,u.oneCell'=true) →
    (execOp a.eval o).run P w = .ok .skip (w.setRow g' (cur.toList.take off++(a.eval z).cells.toList++cur.toList.drop (off+n)).toArray):=by
   intro g' off ty cur h1 h2 h3 h4 h5;have:=mC1 (P:=P) hct g' off ty cur (a.eval z) h2 h3 h4 h5;simp only[execOp,ho,h1,Instr.storeAt,Instr.sureAddr,Sem.run_bind,Sem.run_pure,Result.andThen_ok,this]
  split at h
  ·rename_i b off zs hb hz;split at h
   ·rename_i U c l hlk hzc;split at h
    ·rename_i hn;split at h
     ·rename_i c' hf;cases h;obtain⟨gg,h4,h5⟩:=wE hb hs;obtain⟨g2,cur,h6,h7,h8⟩:=hi.obs b _ hlk;rw[h4]at h6;cases h6;obtain⟨h9,h10⟩:=nL (gG hz hs) hzc;obtain⟨hfit,h11⟩:=iI1 hf h8 h9;have hsz:(a.eval z).cells.size=n:=by rw[←wE2,←All2.length h9];exact beqt.1 hn
      rw[wE2,wE2,hsz]at hfit;rw[wE2,hsz]at h11;have hr:=hrun gg off U cur h5 h7 hsz hfit h10;have hgo:=qK (w':=w.setRow gg (cur.toList.take off++(a.eval z).cells.toList++cur.toList.drop (off+n)).toArray) (b:=.box U c') hi hs hlk (sU h7 b (.inl h4) _)
       ⟨gg,_,h4,setRow_heap w gg cur _ U _ h7,LfsOK.keep (Stay.of_block fun k hk=>⟨hk,setRow_other w gg k _ fun e=>(hi.own b _ k hlk (by rw[h4,e];rfl)).1 hk⟩) (by simpa using h11) fun _ _=>rfl⟩ (fun _ _ _ e=>by cases e)
      exact⟨undef,_,Z,γ,.inr ⟨hr,rfl⟩,hgo.1,trivial,hgo.2,fun _ _ _=>rfl⟩
     ·cases h
    ·cases h
   ·cases h
  ·rename_i r i off zs hb hz;split at h
   ·rename_i e t xs l hlk hzc;split at h
    ·rename_i hn;split at h
     ·rename_i c' hf;split at h
      ·rename_i wv rest hp;cases h;obtain⟨h4,h5,gg,n',c2,h6,h7⟩:=gG hb hs e t xs hlk;obtain⟨cs,how,hrl⟩:=hi.obs r _ hlk;rw[h6]at how;rcases how.2 with⟨e1,_⟩ | ⟨g2,cap,cur,e1,_,hg,hnc,hcm,hcs,htake⟩
       ·cases e1
       cases e1;have hcl:cs.length=xs.length*t.sz:=how.1;obtain⟨h9,h10⟩:=nL (gG hz hs) hzc;have hsz:(a.eval z).cells.size=n:=by rw[←wE2,←All2.length h9];exact beqt.1 hn
       have hib:i.toNat*t.sz+t.sz≤cs.length:=by rw[hcl,←nG2];exact Nat.mul_le_mul_right _ h5
       obtain⟨ec,hec1,hec2⟩:=RepL.getElem (fun _ _ h=>Ty.Rep.length h) hrl i.toNat xs[i.toNat] (sE2 h5);have hecl:=Ty.Rep.length hec1;have hece:ec=(cs.drop (i.toNat*t.sz)).take t.sz:=by
        apply List.ext_getElem?;intro j;rw[eH2,jH2];by_cases hj:j<t.sz
        ·rw[if_pos hj];have:j<ec.length:=by omega
         rw[hec2 j ec[j] (sE2 this),sE2 this]
        ·rw[if_neg hj,uG2 (by omega)]
       have hgd:xs.getD i.toNat t.z=xs[i.toNat]:=by rw[oE2,sE2 h5,zG2]
       rw[hgd]at hf;obtain⟨hfit,h11⟩:=iI1 hf (yL γ hec1) h9;rw[wE2,hsz,hecl]at hfit;obtain⟨av,bv,e2,hrep,_⟩:=eP hp h11;have hbv:bv=[]:=by have hl1:=congrArg List.length e2;have hl2:=Ty.Rep.length hrep;simp only[jE2,fF2,fG2,wE2,hsz,hecl]at hl1;exact aF2 (by omega)
       subst hbv;rw[zE2]at e2;have hmul:(i.toNat*t.sz+off)+n≤cs.length:=by omega
       have hle:cs.length≤cur.toList.length:=by rw[←htake,fF2];omega
       obtain⟨tl,hsplit⟩:∃tl,cur.toList=cs++tl:=⟨cur.toList.drop cs.length,by
        conv=>lhs;rw[←hG2 cs.length cur.toList]
        rw[hcl,htake,←hcl]⟩
       have hr:=hrun gg (i.toNat*t.sz+off) e cur h7 hg hsz (by rw[←wE2];omega) h10;have hzl:(a.eval z).cells.toList.length=n:=by rw[wE2,hsz]
       have hnew:cur.toList.take (i.toNat*t.sz+off)++(a.eval z).cells.toList++cur.toList.drop (i.toNat*t.sz+off+n)=(cs.take (i.toNat*t.sz)++av++cs.drop (i.toNat*t.sz+t.sz))++tl:=by have h1:=bQ1 cs tl (a.eval z).cells.toList (i.toNat*t.sz+off) (by rw[hzl];exact hmul);have h2:=oX1 cs (a.eval z).cells.toList (i.toNat*t.sz) off t.sz hib (by rw[hzl];exact hfit);rw[←hece,e2]at h2;rw[hsplit,←h2,←h1,hzl]
       rw[hnew]at hr;have havl:=Ty.Rep.length hrep;have hst:Stay w (w.setRow gg ((cs.take (i.toNat*t.sz)++av++cs.drop (i.toNat*t.sz+t.sz))++tl).toArray) Z Z:=
        Stay.of_block fun k hk=>⟨hk,setRow_other w gg k _ fun e=>(hi.own r _ k hlk (by rw[h6,e];rfl)).1 hk⟩
       have hl3:(cs.take (i.toNat*t.sz)++av++cs.drop (i.toNat*t.sz+t.sz)).length=xs.length*t.sz:=by simp only[jE2,fF2,fG2,havl];omega
       have hgo:=qK (w':=w.setRow gg ((cs.take (i.toNat*t.sz)++av++cs.drop (i.toNat*t.sz+t.sz))++tl).toArray) (b:=.row e t (xs.set i.toNat wv)) hi hs hlk (sU hg r (.inr ⟨_,_,h6⟩) _)
        ⟨cs.take (i.toNat*t.sz)++av++cs.drop (i.toNat*t.sz+t.sz),⟨by rw[hl3,uH2],.inr ⟨gg,c2,_,by rw[h6,uH2],kE2 _,setRow_heap w gg cur _ e _ hg,by rw[uH2];exact hnc,hcm,by
         have h1:=congrArg List.length hsplit;simp only[jE2,wE2]at h1;rw[nH2,jE2,hl3,←hcl,←h1,hcs],by
         rw[uH2,←hl3];exact cH2⟩⟩,RepL.imp (fun _ _ h=>Ty.Rep.stay hst h) (RepL.set (fun _ _ h=>Ty.Rep.length h) hrl i.toNat wv av h5 hrep)⟩
        (fun E' t' xs' e=>by cases e;exact⟨_,xs,rfl,by rw[uH2]⟩)
       exact⟨undef,_,Z,γ,.inr ⟨hr,rfl⟩,hgo.1,trivial,hgo.2,fun _ _ _=>rfl⟩
      ·cases h
     ·cases h
    ·cases h
   ·cases h
  ·cases h
structure Src (P:Program) (w:World) (U:TypeId) (size:Nat) (x:Value) (m:Nat) (news:List Value):Prop where
 ty:(∃e',P.underlying U=some (.slice e'))∨P.underlying U=some .string
 len:∀w',(Builtin.lenOf x).run P w' = .ok m w'
 cells:∀w',w'.heap=w.heap→(Builtin.firstCells size m x).run P w' = .ok news.toArray w'
 length:news.length=m*size
 one:∀u∈news,u.oneCell'=true
theorem iQ1 {U e':TypeId} {size:Nat} (hU:P.underlying U=some (.slice e')) {t:Ty} {ys:List t.D} {v:Value} (h:Rd w Z t ys v) (hsz:t.sz=size):∃news,Src P w U size v ys.length news∧RepL (t.Rep w Z) ys news:=by
 obtain⟨A,cap,cells,e,h1,h2,h3⟩:=h;subst e;have hl:=RepL.length (fun _ _ h=>Ty.Rep.length h) h2;refine⟨cells,⟨.inl ⟨_,hU⟩,fun w'=>by simp[Builtin.lenOf],fun w' hw=>?_,by rw[hl,hsz],RepL.all (fun _ _ h=>Ty.Rep.one h) h2⟩,h2⟩;rcases h3 with⟨h3,h4⟩ | ⟨ad,h3,h4⟩
 ·subst h3;cases h2
  cases A with
  | none=>exact run_firstCells_none w' size 0 0 cap
  | some ad=>exact run_firstCells_some w' size 0 ad 0 cap [] (by simp) (by simp)
 ·subst h3
  exact run_firstCells_some w' size _ ad _ cap cells (by rw[hl,hsz]) fun j u hu=>by have:=h4 j u hu;simp only[World.cell?,hw]at this ⊢;exact this
theorem yD1 {T U ty e:TypeId} {i:TypeInfo} (hT:P.underlying T=some (.slice e)) (hi:P.info? e=some i) {g' n cap:Nat} {cur:Array Value} (hg:w.heap[g']?=some (.cells cur e (0,0))) {x:Value} {m:Nat} {news:List Value}
  (hx:Src P w U i.size x m news) (hroom:n+m≤cap) (hfit:n*i.size+news.length≤cur.size):
  (Builtin.append_ #[T,U] ty #[.slice (some ⟨g',0,none⟩) n cap,x]).run P w = .ok (.slice (some ⟨g',0,none⟩) (n+m) cap) (w.setRow g' (cur.toList.take (n*i.size)++news++cur.toList.drop (n*i.size+news.length)).toArray):=by
 have hst:=run_storeCells_at P g' (n*i.size) e news 0 cur w hg (by simpa using hfit) hx.one;simp only[Nat.add_zero]at hst;have hc:=hx.cells w rfl;have hl:=hx.len w;rcases hx.ty with⟨e',hU⟩ | hU <;> simp[Builtin.append_,run_underlying hT,run_underlying hU,sizeOf,typeInfo,hi,hl,hroom,hc,Addr.add_lit,hst]
theorem tC1 {T U ty e:TypeId} {i:TypeInfo} (hT:P.underlying T=some (.slice e)) (hi:P.info? e=some i) {x:Value} (hx:Src P w U i.size x 0 []):
  (Builtin.append_ #[T,U] ty #[.slice none 0 0,x]).run P w = .ok (.slice none 0 0) w:=by
 have hc:=hx.cells w rfl;have hl:=hx.len w;rcases hx.ty with⟨e',hU⟩ | hU <;> simp[Builtin.append_,run_underlying hT,run_underlying hU,sizeOf,typeInfo,hi,hl,hc]
theorem hE1 {T U ty e:TypeId} {i:TypeInfo} {z:Value} (hT:P.underlying T=some (.slice e)) (hi:P.info? e=some i) (hz:i.zero=some z) {A:Option Addr} {n cap:Nat} {olds:List Value} (holds:∀w',w'.heap=w.heap→(Builtin.firstCells i.size n (.slice A n cap)).run P w' = .ok olds.toArray w')
  {x:Value} {m:Nat} {news:List Value} (hx:Src P w U i.size x m news) (hg:cap<n+m) (h63:((n+m:Nat):Int)≤9223372036854775807) (hfit:Builtin.nextslicecap (n+m) cap*i.bytes≤281474976710656):
  (Builtin.append_ #[T,U] ty #[.slice A n cap,x]).run P w = .ok (.slice (some ⟨w.heap.size,0,none⟩) (n+m) (grownCap w (n+m) cap e))
    (w.drew.alloc (.cells (olds.toArray++news.toArray++Builtin.zeroCells z.cells (grownCap w (n+m) cap e-(n+m))) e)):=by
 have hn:¬(n+m≤cap):=by omega
 have h63':¬(9223372036854775807<((n:Int)+(m:Int))):=by omega
 have h48':¬(281474976710656<Builtin.nextslicecap (n+m) cap*i.bytes):=by omega
 have hc:=hx.cells w.drew rfl;have ho:=holds w.drew rfl;have hl:=hx.len w;rcases hx.ty with⟨e',hU⟩ | hU <;> simp[Builtin.append_,run_underlying hT,run_underlying hU,sizeOf,typeInfo,zeroValue,hi,hz,hl,hn,h63',h48',Question.forced,hc,ho,newRow,grownCap] <;> (congr 2;apply Array.ext';simp[uE2])
theorem sA2 {T U ty e:TypeId} {i:TypeInfo} {z:Value} (hT:P.underlying T=some (.slice e)) (hi:P.info? e=some i) (hz:i.zero=some z) (hzs:z.cells.size=i.size) {v:Value} {n:Nat} {cs:List Value} (hown:w.ownsRow 0 e i.size v n cs)
  {x:Value} {m:Nat} {news:List Value} (hx:Src P w U i.size x m news) (hb:(n+m)*i.bytes≤140737488355328) (hm:n+m≤17179869184):
  ∃v' w',(Builtin.append_ #[T,U] ty #[v,x]).run P w = .ok v' w'∧w'.ownsRow 0 e i.size v' (n+m) (cs++news)∧Frm (fun k=>blkV v=some k) w w' ∧ ∀k,blkV v'=some k→blkV v=some k∨w.heap.size≤k:=by
 have hlen:(cs++news).length=(n+m)*i.size:=by rw[jE2,hown.1,hx.length,Nat.add_mul]
 have hmax:n+m≤maxLen:=by simp only[maxLen];omega
 have grown:∀A cap,v = .slice A n cap→(∀w',w'.heap=w.heap→(Builtin.firstCells i.size n (.slice A n cap)).run P w' = .ok cs.toArray w')→cap<n+m →
   ∃v' w',(Builtin.append_ #[T,U] ty #[v,x]).run P w = .ok v' w'∧w'.ownsRow 0 e i.size v' (n+m) (cs++news)∧Frm (fun k=>blkV v=some k) w w' ∧ ∀k,blkV v'=some k→blkV v=some k∨w.heap.size≤k:=by
  rintro A cap rfl holds hlt;have hge:=grownCap_ge w (n+m) cap e;have hcm:=grownCap_le_maxLen w (n+m) cap e hmax;refine⟨_,_,hE1 hT hi hz holds hx hlt (by omega) (growslice_fits hlt hb),⟨hlen,.inr ⟨w.heap.size,_,_,rfl,kE2 _,heap_alloc_new w.drew _,hge,hcm,?_,?_⟩⟩,?_,fun k hk=>.inr (by cases hk;exact rE2 _)⟩
  ·simp only[Array.size_append,nH2,size_zeroCells,hzs,hown.1,hx.length,←Nat.add_mul]
   congr 1
   omega
  ·simp only[Array.toList_append,uE2];rw[←uE2,←hlen];exact cH2
  ·exact⟨rfl,rfl,rfl,by simp,fun k hk _=>heap_alloc_old w.drew _ hk⟩
 have hcells:=fun gg=>hown.cells (g:=gg)
 rcases id hown.2 with⟨rfl,rfl⟩ | ⟨g',cap,cur,rfl,_,hg,hnc,hcm,hcs,htake⟩
 ·have hcs0:cs=[]:=aF2 (by simpa using hown.1);subst hcs0;by_cases hm0:m=0
  ·subst hm0;have hn0:news=[]:=aF2 (by simpa using hx.length);subst hn0;exact⟨_,_,tC1 hT hi hx,World.ownsRow_nil w 0 e i.size,Frm.refl _ _,fun k hk=>by cases hk⟩
  ·exact grown none 0 rfl (fun w' _=>run_firstCells_none w' i.size 0 0 0) (by omega)
 ·by_cases hroom:n+m≤cap
  ·have hfit:n*i.size+news.length≤cur.size:=by rw[hx.length,hcs,←Nat.add_mul];exact Nat.mul_le_mul_right _ hroom
   refine⟨_,_,yD1 hT hi hg hx hroom hfit,⟨hlen,.inr ⟨g',cap,_,rfl,kE2 _,setRow_heap w g' cur _ e _ hg,hroom,hcm,?_,?_⟩⟩,(Frm.setRow w g' _).mono fun k _ hk=>by rw[hk];rfl,fun k hk=>.inl hk⟩
   ·simp only[nH2,jE2,fF2,fG2,wE2];omega
   ·rw[htake,←hlen];exact cH2
  ·refine grown _ cap rfl (fun w' hw=>run_firstCells_some w' i.size n ⟨g',0,none⟩ n cap cs hown.1 fun j u hu=>?_) (by omega);have:=hcells g' rfl j u hu;simp only[World.cell?,hw]at this ⊢;exact this
theorem xY1 {U:TypeId} (hU:P.underlying U=some .string) (b:ByteArray):Src P w U 1 (.string b) (xG b).length ((xG b).map (Value.int .u8))∧RepL ((Ty.int .u8).Rep w Z) (xG b) ((xG b).map (Value.int .u8)):=by
 have hl:(xG b).length=b.size:=by simp[xG]
 refine⟨⟨.inr hU,fun w'=>by simp[Builtin.lenOf,hl],fun w' _=>?_,by simp,by simp[Value.oneCell']⟩,?_⟩
 ·simp only[Builtin.firstCells,Sem.run_pure,hl]
  congr 1
  have:b.extract 0 b.size=b:=by simp
  rw[this];apply Array.ext';simp[xG]
 ·generalize xG b=l
  induction l with
  | nil=>rfl
  | cons n l ih=>exact⟨[.int .u8 n],_,rfl,rfl,ih⟩
theorem lR {e:TypeId} {sz:Nat} {A:Option Addr} {n c:Nat} {cs:List Value} (h:w.ownsRow 0 e sz (.slice A n c) n cs) (k:Nat) (hk:k≤n):w.ownsRow 0 e sz (.slice A k c) k (cs.take (k*sz)):=by
 refine⟨by rw[fF2,h.1,Nat.min_eq_left (Nat.mul_le_mul_right _ hk)],?_⟩;rcases h.2 with⟨h1,h2⟩ | ⟨g',cap,cur,h1,h2,h3,h4,h5,h6,h7⟩
 ·cases h1;have:k=0:=by omega
  subst this;exact .inl ⟨rfl,rfl⟩
 ·cases h1;exact .inr ⟨g',c,cur,rfl,h2,h3,by omega,h5,h6,by rw[←h7,List.take_take,Nat.min_eq_left (Nat.mul_le_mul_right _ hk)]⟩
theorem uY1 (henv:kF P E=true) (hi:Inv w0 M Z0 w Z γ s.ob) {e:TypeId} {t:Ty} {U:TypeId} {b:Lf} {ys:List t.D} {v:Value} {n:Nat} (h:srcL E s.ob e t U b=some ys) (hb:LfOK w Z γ b v) (hn:n=t.sz):
  ∃news,Src P w U n v ys.length news∧RepL (t.Rep w Z) ys news:=by
 unfold srcL at h;split at h
 ·rename_i e' t' hU;split at h
  ·rename_i z hz;obtain⟨e1,hx⟩:=aK h;cases e1;subst hx;exact iQ1 (gF (uE henv (fQ hU))).1 (lB1 hi hz hb) hn.symm
  ·cases h
 ·split at h
  ·rename_i hU
   cases b with
   | v t' z=>
    cases t' with
    | str=>
     obtain⟨e1,hx⟩:=aK (show cD1 (.row e (.int .u8)) (.row e t) (xG z)=some ys from h);cases e1;subst hx;subst hn;have hv:v = .string z:=by simpa only[LfOK,Ty.Rep,List.cons.injEq,and_true]using hb
     subst hv;exact⟨_,xY1 (yS henv hU) z⟩
    | _=>cases h
   | _=>cases h
  ·cases h
theorem wG1 (henv:kF P E=true) {c:Call} (ho:o.op = .call c) (hb:c.callee = .builtin .append) (h:step E s o=some (s1,.go g x ob')) (hg:g.all id=true) (hi:Inv w0 M Z0 w Z γ s.ob) (hs:SlotsOK w Z γ s.ob s.sl a.tmps):Does P w0 M Z0 w γ a o s1 x ob':=by
 simp only[step,ho,hb]at h;split at h
 ·rename_i y z T U hargs hts;have hargs:c.args = #[y,z]:=by rw[←dG2 (xs:=c.args),hargs]
  have hts:c.argTypes = #[T,U]:=by rw[←dG2 (xs:=c.argTypes),hts]
  split at h
  ·rename_i e t ca cb hT h1 h2;split at h
   ·rename_i xs hxs;have hty:=uE henv (fQ hT);obtain⟨hu,hsz,hte⟩:=gF hty;obtain⟨i,hinfo,hio⟩:=aG hte;obtain⟨hisz,hby,zv,hzv,_,_,hzs⟩:=aF (w:=w) (Z:=Z) γ hio;have hca:=wE h1 hs;have hcb:=wE h2 hs;split at h
    ·rename_i ys hys;obtain⟨news,hx,hnews⟩:=uY1 henv hi hys hcb hisz;have fin:∀(ob1:List (Nat×Ob)) (cs:List Value),w.ownsRow 0 e t.sz (a.eval y) xs.length cs→RepL (t.Rep w Z) xs cs→(∀n b,look ob1 n=some b→look s.ob n=some b) →
       (∀k,blkV (a.eval y)=some k → ¬Z k∧(k<w0.heap.size→M k) ∧ ∀n b,look ob1 n=some b→blkV (γ n)≠some k)→s.fresh (s.id o.dst)=true→[decide (xs.length+ys.length≤eD)].all id=true →
       Does P w0 M Z0 w γ a o s (.lf (.o (s.id o.dst))) (put ob1 (s.id o.dst) (.row e t (xs++ys))):=by
      intro ob1 cs how hrl hob1 hN hf hlim;have hlim:xs.length+ys.length≤17179869184:=by simp only[kH2,List.all_nil,id,zH2]at hlim;exact of_decide_eq_true hlim
      have hbb:(xs.length+ys.length)*i.bytes≤140737488355328:=
       sG2 (Nat.mul_le_mul hlim hby) (by decide)
      rw[←hisz]at how;obtain⟨v',w',hr,hown',hfrm,hblk⟩:=sA2 (P:=P) (T:=T) (U:=U) (ty:=o.type) hu hinfo hzv (by rw[hzs,hisz]) how hx hbb hlim;rw[hisz]at hown';have hst:Stay w w' Z Z:=Stay.of_block fun k hk=>⟨hk,hfrm.block k (hi.zlt k hk) fun hn=>(hN k hn).1 hk⟩
      have hm:=tL (v:=v') (b:=.row e t (xs++ys)) hi hs hf hfrm hob1 hN
       ⟨cs++news,by rw[eE,jE2];exact hown',RepL.imp (fun _ _ h=>Ty.Rep.stay hst h) (RepL.append hrl hnews)⟩ hblk
      refine⟨v',w',Z,_,.inl ?_,hm.1,⟨eE.symm,?_⟩,hm.2,fun hb n hn=>qJ (by have:=aL1 (o:=o) hb;omega)⟩
      ·simp only[execOp,ho,resolve,hb,invoke,builtin,hargs,hts,Sem.run_bind,Sem.run_pure,Result.andThen_ok,List.map_toArray,qF2,List.map_nil,hr]
      ·rw[eE];rcases hown'.2 with⟨e1,_⟩ | ⟨_,_,_,e1,_⟩ <;> exact⟨_,_,_,e1⟩
     have delN:∀r b,look s.ob r=some b → ∀k,blkV (γ r)=some k → ¬Z k∧(k<w0.heap.size→M k) ∧ ∀n b,look (del s.ob r) n=some b→blkV (γ n)≠some k:=by
      intro r b hl k hk;refine⟨(hi.own r b k hl hk).1,(hi.own r b k hl hk).2,fun n b' hn hk'=>?_⟩;rw[bI]at hn;by_cases hrn:r=n
      ·rw[if_pos hrn]at hn;cases hn
      ·rw[if_neg hrn]at hn;exact hrn (hi.disj r n b b' k hl hn hk hk')
     have delS:∀r n b,look (del s.ob r) n=some b→look s.ob n=some b:=by
      intro r n b hn;rw[bI]at hn;by_cases hrn:r=n
      ·rw[if_pos hrn]at hn;cases hn
      ·rwa[if_neg hrn]at hn
     cases ca with
     | nl=>
      cases hxs;dsimp only at h;split at h
      ·rename_i hf;cases h;rw[show a.eval y = .slice none 0 0 from hca]at fin;exact fin s.ob [] (World.ownsRow_nil w 0 e t.sz) rfl (fun _ _ h=>h) (fun k hk=>by cases hk) hf hg
      ·cases h
     | o r=>
      dsimp only at h;split at h
      ·rename_i hf;cases h;have hlk:=yH hxs;obtain⟨cs,how,hrl⟩:=hi.obs r _ hlk;rw[show a.eval y=γ r from hca.1]at fin;exact fin (del s.ob r) cs how hrl (delS r) (delN r _ hlk) hf hg
      ·cases h
     | oh r k=>
      dsimp only at h;split at h
      ·rename_i hf;cases h;obtain⟨xs0,hr0,hx0⟩:=lF2.1 hxs;cases hx0;have hlk:=yH hr0;obtain⟨cs,how,hrl⟩:=hi.obs r _ hlk;obtain⟨A,n,cp,h3,h4,h5,h6⟩:=hca;have hn:n=xs0.length:=by
        rcases how.2 with⟨e1,e2⟩ | ⟨_,_,_,e1,_⟩
        ·rw[h3]at e1;cases e1;exact e2.symm
        ·rw[h3]at e1;cases e1;rfl
       subst hn;have hlen:(xs0.take k.toNat).length=k.toNat:=by rw[fF2];omega
       rw[h3]at how;have hp:=lR how k.toNat h6;refine fin (del s.ob r) (cs.take (k.toNat*t.sz)) (by rw[h4,hlen];exact hp) (RepL.take (fun _ _ h=>Ty.Rep.length h) hrl _) (delS r) (fun j hj=>delN r _ hlk j ?_) hf hg;rw[h3];rw[h4]at hj;cases A <;> exact hj
      ·cases h
     | _=>cases h
    ·cases h
   ·cases h
  ·cases h
 ·cases h
theorem RepL.periodic {α:Type} {R:α→List Value→Prop} {x:α} {z:List Value} (hx:R x z) (hz:0<z.length):∀(m:Nat) (cs:List Value),cs.length=m*z.length→(∀j,j<cs.length→cs[j]?=z[j%z.length]?)→RepL R (List.replicate m x) cs
 | 0,cs,hl,_=>aF2 (by simpa using hl)
 | m+1,cs,hl,h=>by
  rw[nG2]at hl;refine⟨z,cs.drop z.length,?_,hx,RepL.periodic hx hz m _ (by rw[fG2];omega) fun j hj=>?_⟩
  ·conv=>lhs;rw[←hG2 z.length cs]
   congr 1
   apply List.ext_getElem?;intro j;rw[eH2];by_cases hj:j<z.length
   ·rw[if_pos hj,h j (by omega),Nat.mod_eq_of_lt hj]
   ·rw[if_neg hj,uG2 (by omega)]
  ·rw[fG2]at hj;rw[jH2,h _ (by omega),Nat.add_mod_left]
theorem eT1 {t:Ty} {z:Value} (hz:t.Rep w Z t.z z.cells.toList) (hsz:0<t.sz) (m:Nat):RepL (t.Rep w Z) (List.replicate m t.z) (madeCells z.cells (m*t.sz)).toList:=by
 have hl:=Ty.Rep.length hz;refine RepL.periodic hz (by omega) m _ (by rw[wE2,size_madeCells,hl]) fun j hj=>?_
 rw[wE2,size_madeCells]at hj;have hlt:j%z.cells.size<z.cells.size:=Nat.mod_lt _ (by rw[←wE2,hl];exact hsz);simp[madeCells,hj,hlt]
theorem iX1 (henv:kF P E=true) {T e:TypeId} {t:Ty} {y z:Operand} {n c:Int} (ho:o.op = .makeSlice T y z) (hT:E.rowT T=some (e,t)) (h1:a.eval y = .int .i64 n) (h2:a.eval z = .int .i64 c) (hf:s.fresh (s.id o.dst)=true) (hg:(jX1 n c).all id=true)
  (hi:Inv w0 M Z0 w Z γ s.ob) (hs:SlotsOK w Z γ s.ob s.sl a.tmps):Does P w0 M Z0 w γ a o s (.lf (.o (s.id o.dst))) (put s.ob (s.id o.dst) (.row e t (nK1 t n))):=by
 have hty:=uE henv (fQ hT);obtain⟨hu,hsz,hte⟩:=gF hty;obtain⟨i,hinfo,hio⟩:=aG hte;obtain⟨hisz,hby,zv,hzv,hzr,_,hzs⟩:=aF (w:=w) (Z:=Z) γ hio;have hgs:0≤n∧n=c∧n≤17179869184:=by simpa only[jX1,kH2,List.all_nil,id,zH2,iE2,decide_eq_true_eq]using hg
 obtain⟨m,hm⟩:=aI2 hgs.1;have hc:c=(m:Int):=by rw[←hgs.2.1];exact hm
 subst hm;subst hc;have hmle:m≤17179869184:=by omega
 have hbb:i.bytes*m≤281474976710656:=sG2 (Nat.mul_le_mul hby hmle) (by decide);obtain⟨w',hr,how,hgr⟩:=run_make_full (P:=P) w 0 T e i zv i.size hu hinfo hzv rfl .i64 .i64 m hbb (by simp only[maxLen];omega) (kE2 _);have hfrm:=(Frm.of_grown hgr).mono (M':=fun _=>False) fun k _ hk=>by cases hk
 have hst:Stay w w' Z Z:=Stay.of_block fun k hk=>⟨hk,hfrm.block k (hi.zlt k hk) fun hn=>hn⟩
 have hlen:(nK1 t (m:Int)).length=m:=by simp[nK1]
 rw[hisz]at how
 have hm:=tL (v:=.slice (some ⟨w.heap.size,0,none⟩) m m) (b:=.row e t (nK1 t m)) hi hs hf hfrm (fun _ _ h=>h) (fun _ hn=>hn.elim)
  ⟨_,by rw[eE,hlen];exact how,by
   have:=eT1 hzr hsz m;simp only[nK1,nF2]
   exact RepL.imp (fun _ _ h=>Ty.Rep.stay hst h) this⟩ (fun k hk=>.inr (by cases hk;exact rE2 _))
 refine⟨_,w',Z,_,.inl ?_,hm.1,⟨eE.symm,?_⟩,hm.2,fun hb n hn=>qJ (by have:=aL1 (o:=o) hb;omega)⟩
 ·simp only[execOp,ho,h1,h2,Sem.run_bind,hr];rfl
 ·rw[eE];exact⟨_,_,_,rfl⟩
theorem zW (henv:kF P E=true) {T:TypeId} {y z:Operand} (ho:o.op = .makeSlice T y z) (h:step E s o=some (s1,.go g x ob')) (hg:g.all id=true) (hi:Inv w0 M Z0 w Z γ s.ob) (hs:SlotsOK w Z γ s.ob s.sl a.tmps):Does P w0 M Z0 w γ a o s1 x ob':=by
 simp only[step,ho]at h;split at h
 ·rename_i e t n c hT h1 h2;split at h
  ·rename_i hf;cases h;exact iX1 henv ho hT (bN h1 hs) (bN h2 hs) hf hg hi hs
  ·cases h
 ·cases h
theorem xR {t:Ty} {s:St} {ev:Operand→Value} (hev:∀x y,s.opnd x=some y→SlotOK w Z γ s.ob y (ev x)):
  ∀(ps:List (Nat×Operand)) (k:Nat) (xs:List t.D) (pre post:List Value),mQ t s k ps=some xs→pre.length=k*t.sz→post.length=ps.length*t.sz →
   ∃news,Instr.fill (fun i=>some (i*t.sz,t.sz)) (pre++post).toArray (ps.map fun x=>(x.1,ev x.2))=some (pre++news).toArray∧RepL (t.Rep w Z) xs news∧xs.length=ps.length
 | [],k,xs,pre,post,h,hpre,hpost=>by simp only[mQ]at h;cases h;have:post=[]:=aF2 (by simpa using hpost);subst this;exact⟨[],rfl,rfl,rfl⟩
 | (i,x)::r,k,xs,pre,post,h,hpre,hpost=>by
  simp only[mQ]at h;split at h
  ·rename_i hik;have hik:=beqt.1 hik;subst hik;split at h
   ·rename_i y hy;split at h
    ·rename_i c hc;split at h
     ·rename_i z hz;split at h
      ·rename_i zs hzs;cases h;obtain⟨h1,_⟩:=nL (hev x y hy) hc;obtain⟨av,bv,e,h2,h3⟩:=eP hz h1;have hbv:bv=[]:=by cases bv <;> first | rfl | exact h3.elim
       subst hbv;rw[zE2]at e;have hsz:(ev x).cells.size=t.sz:=by rw[←wE2,e];exact Ty.Rep.length h2
       rw[iF2,nG2]at hpost;have hpl:t.sz≤post.length:=by omega
       have hal:=Ty.Rep.length h2
       have hfs:=xT (i*t.sz) (ev x).cells.toList 0 (pre++post).toArray (by
        simp only[wE2,hsz,Nat.add_zero,nH2,jE2]
        omega)
       have hseg:((ev x).cells.zipIdx.foldl (fun cs (x:Value×Nat)=>cs.setIfInBounds (i*t.sz+x.2) x.1) (pre++post).toArray)=((pre++av)++post.drop t.sz).toArray:=by apply Array.ext';rw[←Array.foldl_toList,Array.toList_zipIdx,hfs];simp only[Nat.add_zero,e,hal];rw[←hpre,cH2,List.drop_append];simp[yG2]
       obtain⟨news,h4,h5,h6⟩:=xR hev r (i+1) zs (pre++av) (post.drop t.sz) hzs (by rw[jE2,hpre,hal,nG2]) (by rw[fG2];omega);refine⟨av++news,?_,⟨av,news,rfl,h2,h5⟩,by simp[h6]⟩;simp only[qF2,Instr.fill];have hcnd:((decide ((ev x).cells.size≠t.sz)||decide (i*t.sz+(ev x).cells.size>(pre++post).toArray.size))=true)=False:=by simp only[eq_iff_iff,iff_false,kG2,decide_eq_true_eq,nH2,jE2];omega
       simp only[hcnd,if_false];rw[hseg,h4,uE2]
      ·cases h
     ·cases h
    ·cases h
   ·cases h
  ·cases h
theorem rN1 (hi:Inv w0 M Z0 w Z γ s.ob) {tm:Array Value} (hs:SlotsOK w Z γ s.ob s.sl tm) (hfrm:Frm (fun _=>False) w w') (hlt:w.heap.size<w'.heap.size):
  Inv w0 M Z0 w' (fun k=>Z k∨k=w.heap.size) γ s.ob∧SlotsOK w' (fun k=>Z k∨k=w.heap.size) γ s.ob s.sl tm:=by
 have hst:Stay w w' Z (fun k=>Z k∨k=w.heap.size):=Stay.of_block fun k hk=>⟨.inl hk,hfrm.block k (hi.zlt k hk) fun h=>h⟩
 refine⟨⟨hi.frm.trans hfrm fun _ _ h=>h.elim,?_,?_,?_,hi.disj,?_⟩,⟨hs.len,fun i=>SlotOK.keep hst (hs.ok i) fun n _=>⟨rfl,fun E t xs h=>⟨E,xs,h,rfl⟩⟩⟩⟩
 ·rintro b (hb | rfl)
  ·exact uF2 (hi.zlt b hb) hfrm.size
  ·exact hlt
 ·rintro b (hb | rfl) h
  ·exact hi.zold b hb h
  ·exact absurd hi.frm.size (by omega)
 ·intro n o h;have h2:=hi.obs n o h;exact h2.keep hst (fun k hk=>hfrm.block k (yR h2 hk) fun h=>h) rfl fun _ _=>rfl
 ·intro n o b h hb;refine⟨?_,(hi.own n o b h hb).2⟩;rintro(hz | rfl)
  ·exact(hi.own n o b h hb).1 hz
  ·exact absurd (yR (hi.obs n o h) hb) (by omega)
theorem eW (henv:kF P E=true) {T:TypeId} {n:Nat} {ps:Array (Nat×Operand)} (ho:o.op = .buildSlice T n ps) (h:step E s o=some (s1,.go g x ob')) (hi:Inv w0 M Z0 w Z γ s.ob) (hs:SlotsOK w Z γ s.ob s.sl a.tmps):Does P w0 M Z0 w γ a o s1 x ob':=by
 by_cases hlit:E.litO o=true
 ·simp only[step,ho,if_pos hlit]at h;split at h
  ·rename_i e t hT;split at h
   ·rename_i xs hxs;split at h
    ·rename_i hcond;cases h;simp only[iE2,decide_eq_true_eq,beqt]at hcond;obtain⟨⟨hn,hn2⟩,hs2⟩:=hcond;have hn2:=rF2 hn2;have hs2:=rF2 hs2;have hty:=uE henv (fQ hT);obtain⟨hu,hsz,hte⟩:=gF hty;obtain⟨i,hinfo,hio⟩:=aG hte;obtain⟨hisz,hby,zv,hzv,hzr,_,hzs⟩:=aF (w:=w) (Z:=Z) γ hio;have hbig:n*t.sz≤1000*1000:=Nat.mul_le_mul hn2 hs2;have hzl:(if n*t.sz=0 then #[]else zv.cells:Array Value).size=(if n*t.sz=0 then 0 else t.sz):=by split <;> simp[hzs]
     let cells0:Array Value:=(Array.range (n*t.sz)).map ((if n*t.sz=0 then #[]else zv.cells:Array Value)[· % (if n*t.sz=0 then #[]else zv.cells:Array Value).size]!)
     obtain⟨news,h1,h2,h3⟩:=xR (w:=w) (Z:=Z) (γ:=γ) (ev:=a.eval) (fun x y hy=>gG hy hs) ps.toList 0 xs [] cells0.toList hxs (by simp) (by simp[cells0,hn]);simp only[dF2,dG2]at h1;have hlen:xs.length=n:=by rw[h3,wE2,hn]
     have hnl:=RepL.length (fun _ _ h=>Ty.Rep.length h) h2;have hgo:=rN1 hi hs (Frm.alloc w (.cells news.toArray e)) (by simp);have hst:Stay w (w.alloc (.cells news.toArray e)) Z (fun k=>Z k∨k=w.heap.size):=Stay.of_block fun k hk=>⟨.inl hk,(Frm.alloc w _).block k (hi.zlt k hk) fun hn=>hn⟩
     refine⟨.slice (some ⟨w.heap.size,0,none⟩) n n,w.alloc (.cells news.toArray e),_,γ,.inl ?_,hgo.1,?_,hgo.2,fun _ _ _=>rfl⟩
     ·have hno:¬(n*t.sz>2 ^ 24):=by omega
      have hps:(ps.map fun(x:Nat×Operand)=>(x.1,a.eval x.2)).toList=ps.toList.map fun x=>(x.1,a.eval x.2):=by simp
      simp only[cells0]at h1;simp only[execOp,ho,Instr.buildSlice,Sem.run_bind,run_underlying hu,Result.andThen_ok,sizeOf,typeInfo,run_program,hinfo,Sem.run_pure,hisz,hno,if_false,hps];by_cases h0:n*t.sz=0
      ·simp only[h0,if_true]at h1;simp only[h0,if_true,pure_bind,h1,Sem.run_bind,newRow,run_newObj,Result.andThen_ok,Sem.run_pure,World.alloc_eq]
      ·simp only[h0,if_false]at h1;simp only[h0,if_false,pure_bind,bind_assoc,zeroValue,typeInfo,h1,Sem.run_bind,newRow,run_newObj,Result.andThen_ok,Sem.run_pure,World.alloc_eq,run_program,hinfo,hzv]
     ·refine⟨some ⟨w.heap.size,0,none⟩,n,news,by rw[hlen],by rw[hlen];exact rE2 _,RepL.imp (fun _ _ h=>Ty.Rep.stay hst h) h2,.inr ⟨_,rfl,.inr rfl,fun j u hu=>?_⟩⟩;rw[Addr.add_lit,World.cell?_alloc_new,xG2];simpa using hu
    ·cases h
   ·cases h
  ·cases h
 simp only[step,ho,if_neg hlit]at h;split at h
 ·rename_i e t hT;split at h
  ·rename_i xs hxs;split at h
   ·rename_i hcond;cases h;simp only[iE2,decide_eq_true_eq,beqt]at hcond;obtain⟨⟨⟨hn,hf⟩,hn2⟩,hs2⟩:=hcond;have hn2:=rF2 hn2;have hs2:=rF2 hs2;obtain⟨Z',hz,hi',hs'⟩:=vL (pH s ps.toList) hi hs;have hty:=uE henv (fQ hT);obtain⟨hu,hsz,hte⟩:=gF hty;obtain⟨i,hinfo,hio⟩:=aG hte;obtain⟨hisz,hby,zv,hzv,hzr,_,hzs⟩:=aF (w:=w) (Z:=Z) γ hio;have hbig:n*t.sz≤1000*1000:=Nat.mul_le_mul hn2 hs2;have hzl:(if n*t.sz=0 then #[]else zv.cells:Array Value).size=(if n*t.sz=0 then 0 else t.sz):=by split <;> simp[hzs]
    let cells0:Array Value:=(Array.range (n*t.sz)).map ((if n*t.sz=0 then #[]else zv.cells:Array Value)[· % (if n*t.sz=0 then #[]else zv.cells:Array Value).size]!)
    obtain⟨news,h1,h2,h3⟩:=xR (w:=w) (Z:=Z') (γ:=γ) (ev:=a.eval) (fun x y hy=>gG hy hs') ps.toList 0 xs [] cells0.toList hxs (by simp) (by simp[cells0,hn]);simp only[dF2,dG2]at h1;have hlen:xs.length=n:=by rw[h3,wE2,hn]
    have hnl:=RepL.length (fun _ _ h=>Ty.Rep.length h) h2;have hst:Stay w (w.alloc (.cells news.toArray e)) Z' Z':=Stay.of_block fun k hk=>⟨hk,(Frm.alloc w _).block k (hi'.zlt k hk) fun hn=>hn⟩
    have hm:=tL (v:=.slice (some ⟨w.heap.size,0,none⟩) n n) (b:=.row e t xs) hi' hs' hf (Frm.alloc w (.cells news.toArray e)) (fun _ _ h=>h) (fun _ hn=>hn.elim)
     ⟨news,⟨hnl,.inr ⟨w.heap.size,n,news.toArray,by rw[eE,hlen],kE2 _,heap_alloc_new w _,by omega,by simp only[maxLen];omega,by simp[hnl,hlen],by rw[←hnl];simp⟩⟩,RepL.imp (fun _ _ h=>Ty.Rep.stay hst h) h2⟩
     (fun k hk=>.inr (by cases hk;exact rE2 _))
    refine⟨_,w.alloc (.cells news.toArray e),Z',_,.inl ?_,hm.1,⟨eE.symm,by rw[eE];exact⟨_,_,_,rfl⟩⟩,hm.2,fun hb n hn=>qJ (by rw[qO]at hb;have:=aL1 (o:=o) hb;omega)⟩;have hno:¬(n*t.sz>2 ^ 24):=by omega
    have hps:(ps.map fun(x:Nat×Operand)=>(x.1,a.eval x.2)).toList=ps.toList.map fun x=>(x.1,a.eval x.2):=by simp
    simp only[cells0]at h1;simp only[execOp,ho,Instr.buildSlice,Sem.run_bind,run_underlying hu,Result.andThen_ok,sizeOf,typeInfo,run_program,hinfo,Sem.run_pure,hisz,hno,if_false,hps];by_cases h0:n*t.sz=0
    ·simp only[h0,if_true]at h1;simp only[h0,if_true,pure_bind,h1,Sem.run_bind,newRow,run_newObj,Result.andThen_ok,Sem.run_pure,World.alloc_eq]
    ·simp only[h0,if_false]at h1;simp only[h0,if_false,pure_bind,bind_assoc,zeroValue,typeInfo,h1,Sem.run_bind,newRow,run_newObj,Result.andThen_ok,Sem.run_pure,World.alloc_eq,run_program,hinfo,hzv]
   ·cases h
  ·cases h
 ·cases h
theorem aU :∀(ns:List Int) (b:ByteArray),ns.foldl (fun r n=>r.push (UInt8.ofNat n.toNat)) b=⟨b.data++(ns.map fun n=>UInt8.ofNat n.toNat).toArray⟩
 | [],b=>by simp
 | n::ns,b=>by
  rw[iH2,aU ns]
  congr 1
  apply Array.ext';simp[ByteArray.push]
theorem rH1 :∀{xs:List Int} {cs:List Value},RepL ((Ty.int .u8).Rep w Z) xs cs→cs=xs.map (Value.int .u8)
 | [],_,h=>h
 | x::xs,_,⟨a,b,e,h1,h2⟩=>by simp only[Ty.Rep]at h1;rw[e,h1,rH1 h2];rfl
theorem nE1 {T U e:TypeId} (hT:P.underlying T=some (.slice e)) (he:P.underlying e=some (.int .u8)) (hU:P.underlying U=some .string) {xs:List Int} {v:Value} (h:Rd w Z (.int .u8) xs v):(convert T U v).run P w = .ok (.string (aU1 xs)) w:=by
 obtain⟨A,cap,cells,e1,h1,h2,h3⟩:=h;subst e1;have hcs:=rH1 h2;rw[run_convert_bytes_string w T U e A _ cap hT he hU];rcases h3 with⟨h3,h4⟩ | ⟨ad,h3,h4⟩
 ·subst h3
  cases A with
  | none=>rfl
  | some ad=>
   rw[run_bytesToString w ad _ cap [] (by simp[loadCells,loadCellsFrom])];rfl
 ·subst h3;have hl:cells.length=xs.length:=by rw[hcs,gG2]
  have:=run_loadCells_list (P:=P) w ad cells h4;rw[hl,hcs]at this;have h5:=run_bytesToString (P:=P) w ad (List.length (α:=Int) xs) cap xs this;rw[aU]at h5;refine h5.trans ?_
  congr 2
  simp[aU1]
theorem bT1 (hi:Inv w0 M Z0 w Z γ s.ob) {tm:Array Value} (hs:SlotsOK w Z γ s.ob s.sl tm) {b:Nat} (hfrm:Frm (fun k=>k=b) w w') (hb:Z b) (hm:b<w0.heap.size→M b) (hc:∀a:Addr,a.block=b→w'.cell? a=w.cell? a):
  Inv w0 M Z0 w' Z γ s.ob∧SlotsOK w' Z γ s.ob s.sl tm:=by
 have hst:Stay w w' Z Z:=fun k hk=>⟨hk,fun a ha=>by
  by_cases hkb:k=b
  ·exact hc a (ha.trans hkb)
  ·exact World.cell?_of_block (by rw[ha];exact hfrm.block k (hi.zlt k hk) hkb)⟩
 refine⟨⟨hi.frm.trans hfrm fun k hk e=>by subst e;exact hm hk,fun k hk=>uF2 (hi.zlt k hk) hfrm.size,hi.zold,?_,hi.disj,hi.own⟩,
  ⟨hs.len,fun i=>SlotOK.keep hst (hs.ok i) fun n _=>⟨rfl,fun E t xs h=>⟨E,xs,h,rfl⟩⟩⟩⟩
 intro n o h;have h2:=hi.obs n o h;exact h2.keep hst (fun k hk=>hfrm.block k (yR h2 hk) fun e=>by subst e;exact(hi.own n o k h hk).1 hb) rfl fun _ _=>rfl
theorem xF1 (w:World) (b:Addr) (n k:Nat) (h:k≠b.block):(w.freeze b n).heap[k]?=w.heap[k]?:=by
 unfold World.freeze;split
 ·rfl
 ·rw[Array.getElem?_modify,if_neg (Ne.symm h)]
theorem iP (w:World) (b:Addr) (n:Nat) (ad:Addr):(w.freeze b n).cell? ad=w.cell? ad:=by
 unfold World.freeze;split
 ·rfl
 ·simp only[World.cell?,Array.getElem?_modify];by_cases hb:b.block=ad.block
  ·simp only[hb,if_true]
   cases hh:w.heap[ad.block]? with
   | none=>simp
   | some o=>cases o <;> simp
  ·simp[hb]
theorem bW (w:World) (b:Addr) (n:Nat):(w.freeze b n).heap.size=w.heap.size:=by
 unfold World.freeze;split
 ·rfl
 ·simp
theorem nY (w:World) (b:Addr) (n:Nat):Frm (fun k=>k=b.block) w (w.freeze b n):=by refine⟨?_,?_,?_,by rw[bW];exact rE2 _,fun k _ h=>xF1 w b n k h⟩ <;> (unfold World.freeze;split <;> rfl)
theorem sI1 {t:Ty} {T:TypeId} (h:tyOK P t T=true):∃d,P.underlying T=some d:=by
 cases t with
 | int k=>exact⟨_,bJ h⟩
 | bool=>exact⟨_,dK h⟩
 | str=>exact⟨_,nK h⟩
 | err=>obtain⟨ms,h⟩:=dT h;exact⟨_,h⟩
 | any T t=>cases h
 | st fs=>obtain⟨ms,h,_⟩:=wM h;exact⟨_,h⟩
 | row e t=>exact⟨_,(gF h).1⟩
theorem dM (w:World) {b:Addr} {c:Array Value} {e:TypeId} {fr:Nat×Nat} (h:w.heap[b.block]?=some (.cells c e fr)):(markStringish b).run P w = .ok () (w.freeze ⟨b.block,c.size,none⟩ 1):=by simp[markStringish,World.shape?,h]
theorem qE1 {T U e:TypeId} {d:TypeDesc} (hT:P.underlying T=some d) (he:P.underlying e=some (.int .u8)) (hU:P.underlying U=some (.slice e)) (b:ByteArray):
  ∃w' cap cur,(convert T U (.string b)).run P w = .ok (.slice (some ⟨w.heap.size,0,none⟩) b.size cap) w'∧b.size≤cap∧Frm (fun _=>False) w w'∧w.heap.size<w'.heap.size ∧
   (∀ad:Addr,ad.block=w.heap.size→w'.cell? ad=(w.drew.alloc (.cells cur e)).cell? ad)∧cur=(b.data.map fun b=>Value.int .u8 b.toNat)++Array.replicate (cap-b.size) (.int .u8 0):=by
 let cap:=(Question.appendCap b.size 0 e).cut (w.tape w.drawn (.appendCap b.size 0 e))
 let cur:Array Value:=(b.data.map fun b=>Value.int .u8 b.toNat)++Array.replicate (cap-b.size) (.int .u8 0)
 have hm:=dM (P:=P) (w.drew.alloc (.cells cur e)) (b:=⟨w.heap.size,0,none⟩) (heap_alloc_new w.drew (.cells cur e));refine⟨(w.drew.alloc (.cells cur e)).freeze ⟨w.heap.size,cur.size,none⟩ 1,cap,cur,?_,?_,?_,?_,fun ad _=>iP _ _ _ ad,rfl⟩
 ·have hcv:(convert T U (.string b)).run P w=(Conv.stringToBytes e b).run P w:=by cases d <;> simp[convert,run_underlying hT,run_underlying hU,run_underlying he]
  rw[hcv];simp only[Conv.stringToBytes,Sem.run_bind,run_choose,Question.forced,pF2,if_false,Result.andThen_ok,newRow,run_newObj,Sem.run_pure,World.alloc_eq,World.drew_eq];exact(congrArg (fun r=>Result.andThen r _) hm).trans rfl
 ·show b.size≤(Question.appendCap b.size 0 e).cut _;simp[Question.cut]
 ·exact Frm.trans (w1:=w.drew.alloc (.cells cur e)) (M':=fun k=>k=w.heap.size) ⟨rfl,rfl,rfl,by simp,fun k hk _=>heap_alloc_old w.drew _ hk⟩ (nY _ ⟨w.heap.size,_,none⟩ _) fun k hk e=>absurd hk (by omega)
 ·rw[bW];simp
theorem dO1 {b:ByteArray} {cap:Nat} {w':World} {g':Nat} {cur:Array Value} {e e':TypeId} {w1:World} (hc:∀ad:Addr,ad.block=g'→w'.cell? ad=(w1.alloc (.cells cur e)).cell? ad) (hg:g'=w1.heap.size) (hz:Z g') (hle:b.size≤cap)
  (hcur:cur=(b.data.map fun b=>Value.int .u8 b.toNat)++Array.replicate (cap-b.size) (.int .u8 0)):(Ty.row e' (.int .u8)).Rep w' Z (xG b) [.slice (some ⟨g',0,none⟩) b.size cap]:=by
 have hl:(xG b).length=b.size:=by simp[xG]
 refine⟨_,cap,(xG b).map (Value.int .u8),by rw[show List.length (α:=(Ty.int .u8).D) (xG b)=b.size from hl],by rw[show List.length (α:=(Ty.int .u8).D) (xG b)=b.size from hl];exact hle,?_,.inr ⟨_,rfl,hz,fun j u hu=>?_⟩⟩
 ·generalize xG b=l
  induction l with
  | nil=>rfl
  | cons n l ih=>exact⟨[.int .u8 n],_,rfl,rfl,ih⟩
 ·rw[hc _ (by simp),Addr.add_lit,hg,World.cell?_alloc_new];have hj:j<b.size:=by have:=(sF2.1 hu).1;rw[gG2,hl]at this;exact this
  rw[hcur,xG2,Array.getElem?_append_left (by simpa using hj),Array.getElem?_map];rw[hH2]at hu;simp only[xG,hH2,tG2,Option.map_map]at hu;rw[←hu];rfl
theorem mE1 (henv:kF P E=true) {T U:TypeId} {y:Operand} (ho:o.op = .convert T U y) (h:step E s o=some (s1,.go g x ob')) (hg:g.all id=true) (hi:Inv w0 M Z0 w Z γ s.ob) (hs:SlotsOK w Z γ s.ob s.sl a.tmps):Does P w0 M Z0 w γ a o s1 x ob':=by
 simp only[step,ho]at h;split at h
 ·rename_i k n tT k' h1 hT hU;cases h;refine Does.pure (.int k' (k'.wrap n)) hi hs ?_ rfl;obtain⟨d,hd⟩:=sI1 (uE henv hT);simp[execOp,ho,convert,run_underlying hd,run_underlying (bJ (uE henv hU)),bN h1 hs,Conv.intToInt]
 ·rename_i c e _ h1 hT hU;split at h
  ·rename_i xs hxs;cases h;have hty:=gF (uE henv hT);refine Does.pure (.string (aU1 xs)) hi hs ?_ rfl;have:=nE1 (U:=U) hty.1 (bJ hty.2.2) (nK (uE henv hU)) (lB1 hi hxs (wE h1 hs));simp only[execOp,ho,Sem.run_bind,this];rfl
  ·cases h
 ·rename_i z tT e h1 hT hU;cases h;have hty:=gF (uE henv hU);obtain⟨d,hd⟩:=sI1 (uE henv hT);obtain⟨w',cap,cur,hr,hle,hfrm,hlt,hc,hcur⟩:=qE1 (w:=w) hd (bJ hty.2.2) hty.1 z;have hgo:=rN1 hi hs hfrm hlt;refine⟨_,w',_,γ,.inl ?_,hgo.1,dO1 hc rfl (.inr rfl) hle hcur,hgo.2,fun _ _ _=>rfl⟩;simp only[execOp,ho,oT h1 hs,Sem.run_bind,hr];rfl
 ·rename_i r e e' h1 hT hU;split at h
  ·rename_i hTU;have hTU:=beqt.1 hTU;subst hTU;split at h
   ·rename_i e2 t xs hl;cases h;have hlen:0<xs.length:=by simpa using hg
    have hty:=gF (uE henv hT);obtain⟨Z',hz,hi',hs',hzr⟩:=mI1 hi hs r;have hv:=(wE h1 hs).1;obtain⟨cs,how,hrl⟩:=hi.obs r _ hl;rcases id how.2 with⟨_,e0⟩ | ⟨g',cap,cur,e1,_,hg',_⟩
    ·omega
    ·have hzb:Z' g':=hzr _ _ _ hl g' (by rw[e1];rfl);have hm:=dM (P:=P) w (b:=⟨g',0,none⟩) hg';have ht:=bT1 hi' hs' (nY w ⟨g',cur.size,none⟩ 1) hzb ((hi.own r _ g' hl (by rw[e1];rfl)).2) (fun ad _=>iP w _ _ ad);refine⟨a.eval y,_,Z',γ,.inl ?_,ht.1,?_,ht.2,fun _ _ _=>rfl⟩
     ·rw[hv,e1];simp only[execOp,ho,hv,e1,convert,Sem.run_bind,run_underlying hty.1,run_underlying (bJ hty.2.2),Result.andThen_ok,beq_self_eq_true,hm,Sem.run_pure]
     ·have hrd:=kA1 hz (mP1 how hrl);have hst:Stay w (w.freeze ⟨g',cur.size,none⟩ 1) Z' Z':=fun k hk=>⟨hk,fun ad _=>iP w _ _ ad⟩
      rw[hv];exact Ty.Rep.stay (t:=.row e2 t) hst (vK hrd fun k hk=>hzr _ _ _ hl k hk)
   ·cases h
  ·cases h
 ·cases h
theorem lD1 (zv:Array Value) (k:Nat):(Builtin.zeroCells zv k).toList=(List.replicate k zv.toList).flatten:=by
 unfold Builtin.zeroCells;rw[Array.toList_map,Array.toList_range];apply List.ext_getElem?;intro i;by_cases h0:zv.size=0
 ·have:zv = #[]:=Array.eq_empty_of_size_eq_zero h0;subst this;simp
 ·have hl:(List.replicate k zv.toList).flatten.length=k*zv.size:=by simp
  by_cases hi:i<k*zv.size
  ·rw[hH2,List.getElem?_range hi];have hm:i%zv.size<zv.size:=Nat.mod_lt _ (by omega);have key:∀(k i:Nat),i<k*zv.size→(List.replicate k zv.toList).flatten[i]?=zv.toList[i%zv.size]?:=by
    intro k
    induction k with
    | zero=>intro i hi;omega
    | succ k ih=>
     intro i hi;rw[List.replicate_succ,List.flatten_cons];by_cases hc:i<zv.size
     ·rw[tF2 (by simpa using hc),Nat.mod_eq_of_lt hc]
     ·rw[yF2 (by simpa using hc),wE2,ih (i-zv.size) (by rw[nG2]at hi;omega)]
      congr 1
      conv=>rhs;rw[show i=(i-zv.size)+zv.size by omega,Nat.add_mod_right]
   rw[key k i hi,tG2,rG2 hm];simp[getElem!_pos,hm]
  ·rw[uG2 (by simpa using hi),uG2 (by rw[hl];omega)]
theorem sK1 (henv:kF P E=true) {c:Call} (ho:o.op = .call c) (hb:c.callee = .builtin .clear) (h:step E s o=some (s1,.go g x ob')) (hi:Inv w0 M Z0 w Z γ s.ob) (hs:SlotsOK w Z γ s.ob s.sl a.tmps):Does P w0 M Z0 w γ a o s1 x ob':=by
 simp only[step,ho,hb]at h;split at h
 ·rename_i y T hargs hts;have hargs:c.args = #[y]:=by rw[←dG2 (xs:=c.args),hargs]
  have hts:c.argTypes = #[T]:=by rw[←dG2 (xs:=c.argTypes),hts]
  split at h
  ·rename_i e t r l z hT h1;split at h
   ·rename_i hz;have hz:=beqt.1 hz;subst hz;split at h
    ·rename_i xs hxs;cases h;have hty:=uE henv (fQ hT);obtain⟨hu,hsz,hte⟩:=gF hty;obtain⟨i,hinfo,hio⟩:=aG hte;obtain⟨hisz,hby,zv,hzv,hzr,_,hzs⟩:=aF (w:=w) (Z:=Z) γ hio;have hlk:=yH hxs;obtain⟨cs,how,hrl⟩:=hi.obs r _ hlk;obtain⟨A,n,cp,h3,h4,h5,h6⟩:=wE h1 hs;rw[h3]at how;have hn:n=xs.length:=by
      rcases how.2 with⟨e1,e2⟩ | ⟨_,_,_,e1,_⟩
      ·cases e1;exact e2.symm
      ·cases e1;rfl
     subst hn;have hone:∀u∈zv.cells.toList,u.oneCell'=true:=Ty.Rep.one hzr;have hzl:zv.cells.toList.length=t.sz:=by rw[wE2,hzs]
     have hnewl:((List.replicate (xs.length-l.toNat) zv.cells.toList).flatten).length=(xs.length-l.toNat)*t.sz:=by simp[hzs]
     have hrun0:∀w1,(Builtin.clear_ #[T] o.type #[a.eval y]).run P w = .ok (.tuple #[]) w1→(execOp a.eval o).run P w = .ok (.value (.tuple #[])) w1:=by intro w1 hr;simp only[execOp,ho,resolve,hb,invoke,builtin,hargs,hts,Sem.run_bind,Sem.run_pure,Result.andThen_ok,List.map_toArray,qF2,List.map_nil,hr]
     by_cases hzero:xs.length-l.toNat=0
     ·-- nothing
      have hrun:=hrun0 w (by
       rw[h4,hzero];have:∀(A':Option Addr) c',(Builtin.clear_ #[T] o.type #[.slice A' 0 c']).run P w = .ok (.tuple #[]) w:=by intro A' c';cases A' <;> simp[Builtin.clear_,run_underlying hu]
       exact this _ _)
      have hsame:xs.take l.toNat++List.replicate (xs.length-l.toNat) t.z=xs:=by rw[hzero,cF2 (by omega)];simp
      rw[hsame];have hgo:=qK (w':=w) (n:=r) (b:=.row e t xs) hi hs hlk ((Frm.refl (fun _=>False) w).mono fun _ _ h=>h.elim) (hi.obs r _ hlk) (fun E' t' xs' e=>by cases e;exact⟨_,xs,rfl,rfl⟩);exact⟨_,w,Z,γ,.inl hrun,hgo.1,trivial,hgo.2,fun _ _ _=>rfl⟩
     ·rcases how.2 with⟨e1,e2⟩ | ⟨gg,cap,cur,e1,_,hg',hnc,hcm,hcs,htake⟩
      ·omega
      cases e1;have hcl:cs.length=xs.length*t.sz:=how.1;have hle:cs.length≤cur.toList.length:=by rw[←htake,fF2];omega
      obtain⟨tl,hsplit⟩:∃tl,cur.toList=cs++tl:=⟨cur.toList.drop cs.length,by
       conv=>lhs;rw[←hG2 cs.length cur.toList]
       rw[hcl,htake,←hcl]⟩
      have hmul:l.toNat*t.sz+(xs.length-l.toNat)*t.sz=xs.length*t.sz:=by rw[←Nat.add_mul];congr 1;omega
      have hnz:¬cp=l.toNat:=by omega
      have hst:=run_storeCells_at P gg (l.toNat*t.sz) e ((List.replicate (xs.length-l.toNat) zv.cells.toList).flatten) 0 cur w hg' (by
       have h1:=congrArg List.length hsplit;simp only[jE2,wE2]at h1
       rw[hnewl];omega) (fun u hu=>by
        rw[List.mem_flatten]at hu;obtain⟨q,hq,hu⟩:=hu;rw[(List.mem_replicate.1 hq).2]at hu
        exact hone u hu)
      simp only[Nat.add_zero]at hst;rw[hnewl]at hst;have hnew:cur.toList.take (l.toNat*t.sz)++(List.replicate (xs.length-l.toNat) zv.cells.toList).flatten++cur.toList.drop (l.toNat*t.sz+(xs.length-l.toNat)*t.sz)=(cs.take (l.toNat*t.sz)++(List.replicate (xs.length-l.toNat) zv.cells.toList).flatten)++tl:=by have h1:=bQ1 cs tl ((List.replicate (xs.length-l.toNat) zv.cells.toList).flatten) (l.toNat*t.sz) (by rw[hnewl,hcl];omega);rw[hnewl,←hsplit]at h1;rw[h1,yG2 (l:=cs) (by rw[hcl];omega),zE2]
      rw[hnew]at hst
      have hrun:=hrun0 (w.setRow gg ((cs.take (l.toNat*t.sz)++(List.replicate (xs.length-l.toNat) zv.cells.toList).flatten)++tl).toArray) (by
       rw[h4,if_neg hnz];obtain⟨k,hk⟩:∃k,xs.length-l.toNat=k+1:=⟨xs.length-l.toNat-1,by omega⟩
       rw[hk]at hst ⊢
       simp[Builtin.clear_,run_underlying hu,zeroValue,typeInfo,hinfo,hzv,lD1,Addr.add_lit,hst])
      have hst2:Stay w (w.setRow gg ((cs.take (l.toNat*t.sz)++(List.replicate (xs.length-l.toNat) zv.cells.toList).flatten)++tl).toArray) Z Z:=
       Stay.of_block fun k hk=>⟨hk,setRow_other w gg k _ fun e=>(hi.own r _ k hlk (by rw[h3,e];rfl)).1 hk⟩
      have hl3:(cs.take (l.toNat*t.sz)++(List.replicate (xs.length-l.toNat) zv.cells.toList).flatten).length=xs.length*t.sz:=by rw[jE2,hnewl,fF2,hcl];omega
      have hxl:(xs.take l.toNat++List.replicate (xs.length-l.toNat) t.z).length=xs.length:=by simp;omega
      have hgo:=qK (w':=w.setRow gg ((cs.take (l.toNat*t.sz)++(List.replicate (xs.length-l.toNat) zv.cells.toList).flatten)++tl).toArray) (b:=.row e t (xs.take l.toNat++List.replicate (xs.length-l.toNat) t.z)) hi hs hlk (sU hg' r (.inr ⟨_,_,h3⟩) _)
       ⟨cs.take (l.toNat*t.sz)++(List.replicate (xs.length-l.toNat) zv.cells.toList).flatten,⟨by rw[hl3,hxl],.inr ⟨gg,cp,_,by rw[h3,hxl],kE2 _,setRow_heap w gg cur _ e _ hg',by rw[hxl];exact hnc,hcm,by
        have h1:=congrArg List.length hsplit;simp only[jE2,wE2]at h1;rw[nH2,jE2,hl3,←hcl,←h1,hcs],by
        rw[hxl,←hl3];exact cH2⟩⟩,RepL.imp (fun _ _ h=>Ty.Rep.stay hst2 h) (RepL.append (RepL.take (fun _ _ h=>Ty.Rep.length h) hrl l.toNat) (RepL.replicate t.z zv.cells.toList hzr _))⟩
       (fun E' t' xs' e=>by cases e;exact⟨_,xs,rfl,by rw[hxl]⟩)
      exact⟨_,_,Z,γ,.inl hrun,hgo.1,trivial,hgo.2,fun _ _ _=>rfl⟩
    ·cases h
   ·cases h
  ·cases h
 ·cases h
theorem aY {t:Ty} {T:TypeId} (hn:t.noIf=true) (h:tyOK P t T=true):∃d,P.underlying T=some d ∧ ∀ms,d ≠ .interface ms:=by
 cases t with
 | int k=>exact⟨_,bJ h,fun _ h=>by cases h⟩
 | bool=>exact⟨_,dK h,fun _ h=>by cases h⟩
 | str=>exact⟨_,nK h,fun _ h=>by cases h⟩
 | err=>cases hn
 | any T t=>cases hn
 | st fs=>obtain⟨ms,h,_⟩:=wM h;exact⟨_,h,fun _ h=>by cases h⟩
 | row E t=>exact⟨_,(gF h).1,fun _ h=>by cases h⟩
theorem jM {T:TypeId} {d:TypeDesc} (hd:P.underlying T=some d) (hn:∀ms,d ≠ .interface ms) (v:Value) (w:World):(Instr.makeInterface T v).run P w = .ok (.iface T v) w:=by unfold Instr.makeInterface;simp only[Sem.run_bind,run_underlying hd,Result.andThen_ok];cases d <;> first | rfl | exact absurd rfl (hn _)
theorem tW {T U:TypeId} {d:TypeDesc} (hd:P.underlying U=some d) (hn:∀ms,d ≠ .interface ms) (v:Value) (w:World):(Instr.typeAssert (.iface U v) T U true).run P w = .ok (.tuple #[v,.bool true]) w:=by unfold Instr.typeAssert;simp only[Sem.run_bind,run_underlying hd,Result.andThen_ok];cases d <;> first | exact absurd rfl (hn _) | simp
theorem cG1 (henv:kF P E=true) {T:TypeId} (h:E.isPtr T=true):∃e,P.underlying T=some (.pointer e):=by
 simp only[Env.isPtr]at h;split at h
 ·rename_i b hb;subst h;have hone:=jN henv hb;simp only[sF1,iE2]at hone;obtain⟨_,h2⟩:=hone;split at h2 <;> first | (cases h2;done) | exact⟨_,by assumption⟩
 ·cases h
theorem kQ (henv:kF P E=true) {T:TypeId} {y:Operand} (ho:o.op = .makeInterface T y) (h:step E s o=some (s1,.go g x ob')) (hi:Inv w0 M Z0 w Z γ s.ob) (hs:SlotsOK w Z γ s.ob s.sl a.tmps):Does P w0 M Z0 w γ a o s1 x ob':=by
 simp only[step,ho]at h;split at h
 ·rename_i b hb;split at h
  ·rename_i hT;cases h;obtain⟨e,he⟩:=cG1 henv hT;obtain⟨gg,h1,h2⟩:=wE hb hs;refine Does.pure (.iface T (a.eval y)) hi hs ?_ ⟨?_,.inr ⟨_,rfl⟩,?_⟩
   ·simp only[execOp,ho,Sem.run_bind,jM he (fun _ h=>by cases h)];rfl
   ·show Value.iface T (a.eval y)=Wv (ifB+T) [γ b];rw[eB2,h1,h2]
   ·intro b' hb';simp at hb';subst hb';exact⟨gg,h1⟩
  ·cases h
 ·rename_i z _ hz;split at h
  ·rename_i l t hl hT;split at h
   ·rename_i hc;simp only[iE2]at hc;obtain⟨hn,hag⟩:=hc;split at h
    ·rename_i v r hp;split at h
     ·rename_i hr;cases h;have hr:r=[]:=by cases r <;> first | rfl | cases hr
      subst hr;obtain⟨d,hd,hni⟩:=aY hn (uE henv hT);have hso:=gG hz hs;obtain⟨h1,_⟩:=nL hso hl;obtain⟨av,bv,e,h2,h3⟩:=eP hp h1;have hbv:bv=[]:=by cases bv <;> first | rfl | exact h3.elim
      subst hbv;rw[zE2]at e;refine Does.pure (.iface T (a.eval y)) hi hs ?_ ⟨a.eval y,av,rfl,?_,h2⟩
      ·simp only[execOp,ho,Sem.run_bind,jM hd hni];rfl
      ·cases z with
       | ag m=>
        rw[if_pos (by simpa[agOK]using hag)];obtain⟨cs,h4,_⟩:=hso;rw[h4]at e ⊢;have e:cs.toList=av:=e;rw[←e]
       | lf c=>
        rw[if_neg (by simpa[agOK]using hag)];simp only[Slot.cells]at hl;split at hl
        ·rename_i hk;cases hl;have h1:=LfOK.one hso hk;have hcl:(a.eval y).cells.toList=[a.eval y]:=by cases hv:a.eval y <;> first | rfl | (rw[hv]at h1;cases h1)
         rw[←e,hcl]
        ·cases hl
       | _=>cases hag
     ·cases h
    ·cases h
   ·cases h
  ·cases h
 ·cases h
theorem tU (henv:kF P E=true) {T U:TypeId} {y:Operand} {b:Bool} (ho:o.op = .typeAssert y T U b) (h:step E s o=some (s1,.go g x ob')) (hi:Inv w0 M Z0 w Z γ s.ob) (hs:SlotsOK w Z γ s.ob s.sl a.tmps):Does P w0 M Z0 w γ a o s1 x ob':=by
 cases b with
 | false=>simp only[step,ho]at h;cases h
 | true=>
  simp only[step,ho]at h;split at h
  ·rename_i V t v hb;split at h
   ·rename_i hc;cases h;simp only[iE2]at hc;obtain⟨hVU,hU⟩:=hc;unfold Env.conc at hU;have:=beqt.1 hVU;subst this;split at hU
    ·rename_i u hu;obtain⟨d,hd,hni⟩:=aY hU (uE henv hu);obtain⟨v0,l,h1,h2,h3⟩:=wE hb hs;have h1:a.eval y = .iface V v0:=by simpa using h1
     refine Does.pure (.tuple #[v0,.bool true]) hi hs ?_ ⟨_,rfl,?_,⟨.v .bool true,rfl,rfl⟩,trivial⟩
     ·simp only[execOp,ho,h1,Sem.run_bind,tW hd hni];rfl
     ·have hl:=yL (w:=w) (Z:=Z) γ h3;dsimp only;split at h2
      ·rename_i hst;rw[if_pos hst];exact⟨l.toArray,h2,by simpa using hl⟩
      ·rename_i hst;rw[if_neg hst];subst h2
       cases hlv:t.leaves v with
       | nil=>rw[hlv]at hl;exact hl.elim
       | cons c r=>
        rw[hlv]at hl
        cases r with
        | nil=>exact⟨c,rfl,hl.1⟩
        | cons _ _=>exact hl.2.elim
    ·cases hU
   ·cases h
  ·cases h
theorem wX1 (henv:kF P E=true) (h:step E s o=some (s1,.go g x ob')) (hg:g.all id=true) (hi:Inv w0 M Z0 w Z γ s.ob) (hs:SlotsOK w Z γ s.ob s.sl a.tmps):Does P w0 M Z0 w γ a o s1 x ob':=by
 cases ho:o.op with
 | move y=>exact vC1 (.inl ho) h hi hs
 | assign y=>exact vC1 (.inr ho) h hi hs
 | binOp op T y z U=>exact kJ1 henv ho h hg hi hs
 | unOp op T y=>exact xO1 ho h hi hs
 | extract y i=>exact aE1 ho h hi hs
 | field T y f=>exact nJ1 henv ho h hi hs
 | build T ps=>exact mJ1 henv ho h hi hs
 | nilCheck y=>exact jB1 ho h hi hs
 | makeFunc f l m=>exact aB1 ho h hi hs
 | index T y z=>exact eL1 henv ho h hg hi hs
 | slice T y lo hi' mx=>exact lL1 henv ho h hg hi hs
 | indexAddr T y z=>exact uW henv ho h hg hi hs
 | fieldAddr T y f=>exact sW henv ho h hi hs
 | load T y=>exact wQ1 henv ho h hi hs
 | alloc T=>exact fL1 henv ho h hi hs
 | box T y=>exact lS1 ho h hi hs
 | store T y z=>exact fK1 henv ho h hi hs
 | makeSlice T y z=>exact zW henv ho h hg hi hs
 | buildSlice T n ps=>exact eW henv ho h hi hs
 | convert T U y=>exact mE1 henv ho h hg hi hs
 | makeInterface T y=>exact kQ henv ho h hi hs
 | typeAssert y T U b=>exact tU henv ho h hi hs
 | pick c y z=>
  simp only[step,ho]at h;split at h <;> cases h
 | call c=>
  cases hb:c.callee with
  | builtin b=>
   cases b with
   | len=>exact dU1 henv ho hb h hi hs
   | append=>exact wG1 henv ho hb h hg hi hs
   | clear=>exact sK1 henv ho hb h hi hs
   | min=>exact mW false ho hb h hi hs
   | max=>exact mW true ho hb h hi hs
   | _=>simp only[step,ho,hb]at h;cases h
  | value y=>
   exfalso;have key:∀f xs caps,jG E s o.dst f xs caps≠some (s1,.go g x ob'):=by
    intro f xs caps h;unfold jG at h
    repeat' (split at h)
    all_goals cases h
   cases y with
   | func f=>simp only[step,ho,hb]at h;exact key _ _ _ h
   | global n=>simp only[step,ho,hb,St.opnd]at h;cases h
   | tmp t=>
    simp only[step,ho,hb]at h;split at h
    ·split at h
     ·exact key _ _ _ h
     ·cases h
    ·cases h
   | const v=>
    simp only[step,ho,hb]at h;split at h
    ·split at h
     ·exact key _ _ _ h
     ·cases h
    ·cases h
  | invoke r m=>simp only[step,ho,hb]at h;cases h
 | _=>simp only[step,ho]at h;cases h
end
mutual
def Sh.Rep (w:World) (Z:Nat→Prop):(s:Sh)→s.T.D→List Value→List Nat→Prop
 | .val t,x,cs,bs=>t.Rep w Z x cs∧bs=[]
 | .own E t,x,cs,bs=>∃v us,cs=[v]∧w.ownsRow 0 E t.sz v (x:List t.D).length us∧RepL (t.Rep w Z) (x:List t.D) us∧bs=(blkV v).toList
 | .mv E t,x,cs,bs=>∃v us,cs=[v]∧w.ownsRow 0 E t.sz v (x:List t.D).length us∧RepL (t.Rep w Z) (x:List t.D) us∧bs=(blkV v).toList
 | .box T sh,x,cs,bs=>∃g cur bs',cs=[.pointer (some ⟨g,0,none⟩)]∧w.heap[g]?=some (.cells cur T (0,0))∧sh.Rep w Z x cur.toList bs'∧bs=g::bs'
 | .fn f sh,x,cs,bs=>∃ps:List Value,cs=[Wv f ps]∧okW f ps∧sh.Rep w Z x ps bs
 | .rcd sh,x,cs,bs=>sh.flat=true∧sh.Rep w Z x cs bs
def Shs.Rep (w:World) (Z:Nat→Prop):(s:Shs)→s.T.D→List Value→List Nat→Prop
 | .nil,_,cs,bs=>cs=[]∧bs=[]
 | .cons s l,x,cs,bs=>∃a b c d,cs=a++b∧bs=c++d∧s.Rep w Z x.1 a c∧l.Rep w Z x.2 b d
end
def Shs.RepA (w:World) (Z:Nat→Prop):(s:Shs)→s.T.D→List Value→List Nat→Prop
 | .nil,_,vs,bs=>vs=[]∧bs=[]
 | .cons s l,x,vs,bs=>∃v vs' c d,vs=v::vs'∧bs=c++d∧(∃cs,(if s.agg=true then v = .agg cs.toArray else cs=[v])∧s.Rep w Z x.1 cs c)∧l.RepA w Z x.2 vs' d
def pI1 :List Value→Value
 | [v]=>v
 | vs=>.tuple vs.toArray
def Shs.io :Shs→List Value→List Value
 | .nil,_=>[]
 | .cons _ _,[]=>[]
 | .cons s l,v::vs=>(match s with | .val _=>[] | .mv _ _=>[] | .rcd _=>[] | _=>[v])++l.io vs
mutual
/-- The kinds of the rows and variables that are handed over, in order. -/
def Sh.kinds :Sh→List (Option (TypeId×Ty))
 | .val _=>[]
 | .own E t=>[some (E,t)]
 | .mv E t=>[some (E,t)]
 | .box _ l=>none::l.kinds
 | .fn _ l=>l.kinds
 | .rcd l=>l.kinds
def Shs.kinds :Shs→List (Option (TypeId×Ty))
 | .nil=>[]
 | .cons s l=>s.kinds++l.kinds
end
mutual
/-- Which values of rows and variables are settled by the cells: all but those that lie inside others. -/
def Sh.Top :Sh→List Value→List Value→Prop
 | .val _,_,us=>us=[]
 | .own _ _,vs,us=>us=vs∧vs.length=1
 | .mv _ _,vs,us=>us=vs∧vs.length=1
 | .box _ l,vs,us=>∃v us',vs=[v]∧us=v::us'∧us'.length=l.cnt
 | .fn _ l,vs,us=>∃v,vs=[v]∧l.Top (aY1 v) us
 | .rcd l,vs,us=>l.Top vs us
def Shs.Top :Shs→List Value→List Value→Prop
 | .nil,_,us=>us=[]
 | .cons s l,vs,us=>∃a b c d,vs=a++b∧us=c++d∧a.length=s.w∧s.Top a c∧l.Top b d
end
def blks (l:List Value):List Nat:=l.flatMap fun v=>(blkV v).toList
def KOK (ob:List (Nat×Ob)) (k:Option (TypeId×Ty)) (n:Nat):Prop:=match k with
 | some (E,t)=>∃xs,look ob n=some (.row E t xs)
 | none=>∃T l,look ob n=some (.box T l)
def KMk (k:Option (TypeId×Ty)) (p:Nat×Ob):Prop:=match k with
 | some (E,t)=>∃xs,p.2 = .row E t xs
 | none=>∃T l,p.2 = .box T l
section
variable {P : Program} {E : Env} {w0 w w' : World} {M Z0 Z Z' : Nat → Prop} {γ γ' : Nat → Value} {ob : List (Nat × Ob)}
theorem sH (a b:List Value):blks (a++b)=blks a++blks b:=by simp[blks]
theorem rG :∀(a b:List Lf),rowNames (a++b)=rowNames a++rowNames b
 | [],b=>rfl
 | c::a,b=>by cases c <;> simp[rowNames,rG a b]
theorem tA2 (hob:∀n o,look ob n=some o→ObOK w Z γ n o) (hz:∀k,Z k→Z' k) {c:Lf} {v:Value} (h:LfOK w Z γ c v) (hn:∀r∈rowNames [c],(look ob r).isSome=true → ∀k,blkV (γ r)=some k→Z' k):LfOK w Z' γ (c.frz ob) v:=by
 have hst:Stay w w Z Z':=Stay.more w hz;have hrow:∀r E t xs,look ob r=some (.row E t xs)→Rd w Z' t xs (γ r):=by intro r E t xs hl;obtain⟨cs,h1,h2⟩:=hob r _ hl;exact kA1 hz (mP1 h1 h2)
 cases c with
 | o r=>
  simp only[Lf.frz]
  cases hl:look ob r with
  | none=>exact LfOK.keep hst h fun _ _=>rfl
  | some o=>
   cases o with
   | box T l=>exact LfOK.keep hst h fun _ _=>rfl
   | row E t xs=>
    rw[h.1];exact vK (hrow r E t xs hl) fun k hk=>hn r (by simp[rowNames]) (by simp[hl]) k hk
 | oh r j=>
  simp only[Lf.frz]
  cases hl:look ob r with
  | none=>exact LfOK.keep hst h fun _ _=>rfl
  | some o=>
   cases o with
   | box T l=>exact LfOK.keep hst h fun _ _=>rfl
   | row E t xs=>
    obtain⟨A,n,c,h3,h4,_,h5⟩:=h;have hr2:=hrow r E t xs hl;rw[h3]at hr2;rw[h4];exact vK (kZ _ h5 hr2) fun k hk=>hn r (by simp[rowNames]) (by simp[hl]) k (by rw[h3];cases A <;> simp[blkV]at hk ⊢ <;> exact hk)
 | ot r j z=>
  simp only[Lf.frz]
  cases hl:look ob r with
  | none=>exact LfOK.keep hst h fun _ _=>rfl
  | some o=>
   cases o with
   | box T l=>exact LfOK.keep hst h fun _ _=>rfl
   | row E t xs=>
    dsimp only;split
    ·rename_i hzz;have:=beqt.1 hzz;subst this;obtain⟨A,n,c,h3,h4,_,h5⟩:=h;have hr2:=hrow r E t xs hl;rw[h3]at hr2;rw[h4];refine vK (iB1 _ h5 hr2) fun k hk=>hn r (by simp[rowNames]) (by simp[hl]) k ?_
     rw[h3]
     revert hk
     cases A <;> split <;> simp[blkV]
    ·trivial
 | _=>exact LfOK.keep hst h fun _ _=>rfl
theorem eP1 (hob:∀n o,look ob n=some o→ObOK w Z γ n o) (hz:∀k,Z k→Z' k):∀{l:List Lf} {vs:List Value},All2 (LfOK w Z γ) l vs→(∀r∈rowNames l,(look ob r).isSome=true → ∀k,blkV (γ r)=some k→Z' k)→All2 (LfOK w Z' γ) (l.map (Lf.frz ob)) vs
 | [],[],_,_=>trivial
 | c::l,v::vs,h,hn=>by have e:rowNames (c::l)=rowNames [c]++rowNames l:=rG [c] l;exact⟨tA2 hob hz h.1 fun r hr=>hn r (by rw[e];exact bF2 _ hr),eP1 hob hz h.2 fun r hr=>hn r (by rw[e];exact tE2 _ hr)⟩
 | [],_::_,h,_=>h.elim
 | _::_,[],h,_=>h.elim
theorem dF1 {cs:List Nat} (h:∀b∈cs,∃g,γ b = .pointer (some ⟨g,0,none⟩)):All2 (LfOK w Z γ) (cs.map fun b=>.p b 0) (cs.map γ):=by
 induction cs with
 | nil=>trivial
 | cons b cs ih=>
  obtain⟨g,hg⟩:=h b nE2;exact⟨⟨g,hg,hg⟩,ih fun b hb=>h b (mE2 _ hb)⟩
mutual
theorem rA1 :∀{s:Sh} {vs us:List Value},s.Top vs us→us.length=s.cnt
 | .val _,_,_,h=>by cases h;rfl
 | .own _ _,_,_,h=>by obtain⟨h1,h2⟩:=h;rw[h1,h2];rfl
 | .mv _ _,_,_,h=>by obtain⟨h1,h2⟩:=h;rw[h1,h2];rfl
 | .box _ l,_,_,⟨v,us',h1,h2,h3⟩=>by rw[h2,iF2,h3];rfl
 | .fn _ l,_,_,⟨v,h1,h2⟩=>zP (s:=l) h2
 | .rcd l,_,_,h=>zP (s:=l) h
theorem zP :∀{s:Shs} {vs us:List Value},s.Top vs us→us.length=s.cnt
 | .nil,_,_,h=>by cases h;rfl
 | .cons s l,_,_,⟨a,b,c,d,h1,h2,h3,h4,h5⟩=>by rw[h2,jE2,rA1 h4,zP h5];rfl
end
mutual
theorem uP :∀(s:Sh),s.kinds.length=s.cnt
 | .val _=>rfl
 | .own _ _=>rfl
 | .mv _ _=>rfl
 | .box _ l=>by simp only[Sh.kinds,iF2,xJ l,Sh.cnt]
 | .fn _ l=>xJ l
 | .rcd l=>xJ l
theorem xJ :∀(s:Shs),s.kinds.length=s.cnt
 | .nil=>rfl
 | .cons s l=>by simp only[Shs.kinds,jE2,uP s,xJ l,Shs.cnt]
end
mutual
theorem jT :∀(s:Sh) (i:Bool),(s.nest i).length=s.cnt
 | .val _,_=>rfl
 | .own _ _,_=>rfl
 | .mv _ _,_=>rfl
 | .box _ l,i=>by simp only[Sh.nest,iF2,tK l true,Sh.cnt]
 | .fn _ l,i=>tK l i
 | .rcd l,i=>tK l i
theorem tK :∀(s:Shs) (i:Bool),(s.nest i).length=s.cnt
 | .nil,_=>rfl
 | .cons s l,i=>by simp only[Shs.nest,jE2,jT s i,tK l i,Shs.cnt]
end
theorem pT :∀{s:Shs} {x:s.T.D} {vs:List Value} {bs:List Nat},s.flat=true→s.Rep w Z x vs bs→vs.length=s.T.sz
 | .nil,_,_,_,_,h=>by rw[h.1];rfl
 | .cons (.val t) l,_,_,_,hf,⟨a,b,c,d,e1,_,h1,h2⟩=>by rw[e1,jE2,Ty.Rep.length h1.1,pT (s:=l) hf h2];rfl
 | .cons (.own e t) l,_,_,_,hf,⟨a,b,c,d,e1,_,⟨v,us,h1,_⟩,h2⟩=>by rw[e1,jE2,h1,pT (s:=l) hf h2];rfl
 | .cons (.mv _ _) _,_,_,_,hf,_ | .cons (.box _ _) _,_,_,_,hf,_ | .cons (.fn _ _) _,_,_,_,hf,_ | .cons (.rcd _) _,_,_,_,hf,_=>by cases hf
mutual
theorem jZ (hob:∀n o,look ob n=some o→ObOK w Z γ n o) (hz:∀k,Z k→Z' k):∀{s:Sh} {l:List Lf} {x:s.T.D} {ns:List Nat} {vs:List Value},s.take ob l=some (x,ns)→All2 (LfOK w Z γ) l vs →
  (∀r∈rowNames (s.vals ob l),(look ob r).isSome=true → ∀k,blkV (γ r)=some k→Z' k)→s.Rep w Z' x vs (blks (ns.map γ))∧All2 (KOK ob) s.kinds ns∧s.Top vs (ns.map γ)∧vs.length=s.w
 | .val t,l,x,ns,vs,h,hl,hn=>by
  simp only[Sh.take]at h;split at h
  ·rename_i y hy;cases h;obtain⟨a,b,e,h1,h2⟩:=eP hy (eP1 hob hz hl hn)
   cases b with
   | cons _ _=>exact h2.elim
   | nil=>
    rw[zE2]at e;subst e;exact⟨⟨h1,rfl⟩,trivial,rfl,Ty.Rep.length h1⟩
  ·cases h
 | .own e t,l,x,ns,vs,h,hl,hn=>cI1 hob hz h hl
 | .mv e t,l,x,ns,vs,h,hl,hn=>cI1 hob hz h hl
 | .box T sh,l,x,ns,vs,h,hl,hn=>by
  simp only[Sh.take]at h;split at h
  ·rename_i b
   cases vs with
   | nil=>exact hl.elim
   | cons v vs=>
    cases vs with
    | cons _ _=>exact hl.2.elim
    | nil=>
     split at h
     ·rename_i T' c hlk;split at h
      ·rename_i hT;have hT:=beqt.1 hT;subst hT;split at h
       ·rename_i y m hy;cases h;obtain⟨g,h1,h2⟩:=hl.1;obtain⟨g',cur,h3,h4,h5⟩:=hob b _ hlk;rw[h1]at h3;cases h3;have hn':∀r∈rowNames (sh.vals ob c),(look ob r).isSome=true → ∀k,blkV (γ r)=some k→Z' k:=by intro r hr;refine hn r ?_;simp only[Sh.vals,hlk];exact hr
        obtain⟨h6,h7,h8,h9⟩:=eT hob hz hy h5 hn';refine⟨⟨g,cur,_,by rw[h2],h4,h6,by simp[blks,h1,blkV]⟩,⟨⟨T,c,hlk⟩,h7⟩,⟨v,m.map γ,rfl,by rw[qF2,h1,h2],?_⟩,rfl⟩;exact zP h8
       ·cases h
      ·cases h
     ·cases h
  ·cases h
 | .fn f sh,l,x,ns,vs,h,hl,hn=>by
  simp only[Sh.take]at h;split at h
  ·rename_i f' cs
   cases vs with
   | nil=>exact hl.elim
   | cons v vs=>
    cases vs with
    | cons _ _=>exact hl.2.elim
    | nil=>
     have h0:(if Nat.beq f f'=true then sh.take ob (cs.map fun b=>.p b 0)else(none:Option (sh.T.D×List Nat)))=some (x,ns):=h;clear h;by_cases hf:Nat.beq f f'=true
     ·rw[if_pos hf]at h0;have hf:=beqt.1 hf;subst hf;have hv:=hl.1;obtain⟨h6,h7,h8,h9⟩:=eT hob hz h0 (dF1 hv.2.2) hn;exact⟨⟨_,by rw[hv.1],hv.2.1,by simpa using h6⟩,h7,⟨_,by rw[hv.1],by rw[fB1 hv.2.1];simpa using h8⟩,rfl⟩
     ·rw[if_neg hf]at h0;cases h0
  ·cases h
 | .rcd sh,l,x,ns,vs,h,hl,hn=>by
  have h0:(if sh.flat=true then sh.take ob l else(none:Option (sh.T.D×List Nat)))=some (x,ns):=h;clear h;by_cases hf:sh.flat=true
  ·rw[if_pos hf]at h0;obtain⟨h6,h7,h8,_⟩:=eT hob hz h0 hl hn;exact⟨⟨hf,h6⟩,h7,h8,pT hf h6⟩
  ·rw[if_neg hf]at h0;cases h0
theorem cI1 (hob:∀n o,look ob n=some o→ObOK w Z γ n o) (hz:∀k,Z k→Z' k):∀{e:TypeId} {t:Ty} {l:List Lf} {x:List t.D} {ns:List Nat} {vs:List Value},(match l with | [.o r]=>(iK ob e t r).bind fun ys=>some (ys,[r]) | _=>none)=some (x,ns)→All2 (LfOK w Z γ) l vs →
  (∃v us,vs=[v]∧w.ownsRow 0 e t.sz v x.length us∧RepL (t.Rep w Z') x us∧blks (ns.map γ)=(blkV v).toList)∧All2 (KOK ob) [some (e,t)] ns∧(ns.map γ=vs∧vs.length=1)∧vs.length=1:=by
 intro e t l x ns vs h hl;split at h
 ·rename_i r
  cases vs with
  | nil=>exact hl.elim
  | cons v vs=>
   cases vs with
   | cons _ _=>exact hl.2.elim
   | nil=>
    obtain⟨ys,h1,h2⟩:=lF2.1 h;cases h2;have hlk:=yH h1;obtain⟨us,h3,h4⟩:=hob r _ hlk;have hv:=hl.1.1;refine⟨⟨v,us,rfl,by rw[hv];exact h3,RepL.imp (fun _ _ h=>Ty.Rep.stay (Stay.more w hz) h) h4,by simp[blks,hv]⟩,⟨⟨_,hlk⟩,trivial⟩,⟨by rw[qF2,List.map_nil,hv],rfl⟩,rfl⟩
 ·cases h
theorem eT (hob:∀n o,look ob n=some o→ObOK w Z γ n o) (hz:∀k,Z k→Z' k):∀{s:Shs} {l:List Lf} {x:s.T.D} {ns:List Nat} {vs:List Value},s.take ob l=some (x,ns)→All2 (LfOK w Z γ) l vs →
  (∀r∈rowNames (s.vals ob l),(look ob r).isSome=true → ∀k,blkV (γ r)=some k→Z' k)→s.Rep w Z' x vs (blks (ns.map γ))∧All2 (KOK ob) s.kinds ns∧s.Top vs (ns.map γ)∧True
 | .nil,l,x,ns,vs,h,hl,_=>by
  simp only[Shs.take]at h;split at h
  ·cases h
   cases vs with
   | nil=>exact⟨⟨rfl,rfl⟩,trivial,rfl,trivial⟩
   | cons _ _=>exact hl.elim
  ·cases h
 | .cons s r,l,x,ns,vs,h,hl,hn=>by
  simp only[Shs.take]at h;split at h
  ·rename_i y a hy;split at h
   ·rename_i z b hzz;cases h;simp only[Shs.vals,rG]at hn;obtain⟨h1,h2,h3,h4⟩:=jZ hob hz hy (All2.take s.w hl) fun r hr=>hn r (bF2 _ hr)
    obtain⟨h5,h6,h7,_⟩:=eT hob hz hzz (All2.drop s.w hl) fun r hr=>hn r (tE2 _ hr)
    rw[mF2,sH];exact⟨⟨_,_,_,_,(hG2 s.w vs).symm,rfl,h1,h5⟩,All2.append h2 h6,⟨_,_,_,_,(hG2 s.w vs).symm,rfl,h4,h3,h7⟩,trivial⟩
   ·cases h
  ·cases h
end
theorem mX :∀{s:Shs} {x:s.T.D} {ps:List Value} {bs:List Nat} {ns:List Nat} {c:List Lf} {ob':List (Nat×Ob)} {rest:List Nat},s.allBox=true→s.Rep w Z x ps bs→s.mk ns x=some (c,ob',rest) →
  All2 (LfOK w Z γ') c ps→ps=(c.map nA1).map γ' ∧ ∀b∈c.map nA1,∃g,γ' b = .pointer (some ⟨g,0,none⟩)
 | .nil,x,ps,bs,ns,c,ob',rest,_,hr,hm,hl=>by
  simp only[Shs.mk]at hm;cases hm
  cases ps with
  | nil=>exact⟨rfl,by simp⟩
  | cons _ _=>exact hl.elim
 | .cons s l,x,ps,bs,ns,c,ob',rest,ha,hr,hm,hl=>by
  cases s with
  | box T sh=>
   simp only[Shs.allBox]at ha;simp only[Shs.mk]at hm;split at hm
   ·rename_i c1 ob1 m1 h1;split at hm
    ·rename_i c2 ob2 m2 h2;cases hm;simp only[Sh.mk]at h1;split at h1
     ·cases h1
     ·rename_i b m;split at h1
      ·rename_i c3 ob3 m3 h3;cases h1;obtain⟨a,b',c',d,e1,e2,h4,h5⟩:=hr;obtain⟨g,cur,bs',e3,_⟩:=h4;subst e1 e3;obtain⟨h6,h7⟩:=mX ha h5 h2 hl.2;obtain⟨g',h8,h9⟩:=hl.1;refine⟨?_,?_⟩
       ·simp only[fH2,dF2,qF2,List.cons.injEq];exact⟨by rw[h9];exact h8.symm,h6⟩
       ·intro y hy;simp only[fH2,dF2,qF2,pE2]at hy;rcases hy with rfl | hy
        ·exact⟨g',h8⟩
        ·exact h7 y hy
      ·cases h1
    ·cases hm
   ·cases hm
  | _=>cases ha
def Made (w:World) (Z:Nat→Prop) (s_kinds:List (Option (TypeId×Ty))) (top:List Value→Prop) (ns:List Nat) (vs:List Value) (bs:List Nat) (c:List Lf) (ob':List (Nat×Ob)) (rest:List Nat):Prop:=
 ∃used us,ns=used++rest∧us.length=used.length∧blks us=bs∧ob'.map (·.1)=used∧All2 KMk s_kinds ob'∧top us ∧
  ∀γ':Nat→Value,used.map γ'=us→All2 (LfOK w Z γ') c vs ∧ ∀n o,(n,o)∈ob'→ObOK w Z γ' n o
theorem qV1 {e:TypeId} {t:Ty} {x:List t.D} {ns:List Nat} {vs:List Value} {bs:List Nat} {c:List Lf} {ob':List (Nat×Ob)} {rest:List Nat}
  (hr:∃v us,vs=[v]∧w.ownsRow 0 e t.sz v x.length us∧RepL (t.Rep w Z) x us∧bs=(blkV v).toList) (hm:(match ns with | []=>none | r::m=>some ([.o r],[(r,.row e t x)],m))=some (c,ob',rest)):
  Made w Z [some (e,t)] (fun us=>us=vs∧vs.length=1) ns vs bs c ob' rest:=by
 obtain⟨v,us,e1,h1,h2,h3⟩:=hr;subst e1;split at hm
 ·cases hm
 ·rename_i r m;cases hm;refine⟨[r],[v],rfl,rfl,by simp[blks,h3],rfl,⟨⟨x,rfl⟩,trivial⟩,⟨rfl,rfl⟩,fun γ' hg=>?_⟩;have hg:γ' r=v:=by simpa using hg
  refine⟨⟨⟨hg.symm,?_⟩,trivial⟩,fun n o hn=>?_⟩
  ·rw[hg];rcases h1.2 with⟨e1,_⟩ | ⟨_,_,_,e1,_⟩ <;> exact⟨_,_,_,e1⟩
  ·simp only[wF2,Prod.mk.injEq]at hn;obtain⟨rfl,rfl⟩:=hn;exact⟨us,by rw[hg];exact h1,h2⟩
theorem yB2 :∀{s:Sh} {x:s.T.D} {vs:List Value} {bs:List Nat},s.Rep w Z x vs bs→vs.length=s.w
 | .val _,_,_,_,h=>Ty.Rep.length h.1
 | .own _ _,_,_,_,⟨v,us,e,_⟩=>by rw[e];rfl
 | .mv _ _,_,_,_,⟨v,us,e,_⟩=>by rw[e];rfl
 | .box _ _,_,_,_,⟨g,cur,bs',e,_⟩=>by rw[e];rfl
 | .fn _ _,_,_,_,⟨ps,e,_⟩=>by rw[e];rfl
 | .rcd _,_,_,_,⟨hf,h⟩=>pT hf h
mutual
theorem qB2 :∀{s:Sh} {x:s.T.D} {ns:List Nat} {vs:List Value} {bs:List Nat} {c:List Lf} {ob':List (Nat×Ob)} {rest:List Nat},s.Rep w Z x vs bs→s.mk ns x=some (c,ob',rest)→Made w Z s.kinds (s.Top vs) ns vs bs c ob' rest
 | .val t,x,ns,vs,bs,c,ob',rest,hr,hm=>by simp only[Sh.mk]at hm;cases hm;obtain⟨h1,h2⟩:=hr;subst h2;exact⟨[],[],rfl,rfl,rfl,rfl,trivial,rfl,fun γ' _=>⟨yL γ' h1,by simp⟩⟩
 | .own e t,x,ns,vs,bs,c,ob',rest,hr,hm=>qV1 hr hm
 | .mv e t,x,ns,vs,bs,c,ob',rest,hr,hm=>qV1 hr hm
 | .box T sh,x,ns,vs,bs,c,ob',rest,hr,hm=>by
  simp only[Sh.mk]at hm;split at hm
  ·cases hm
  ·rename_i b m;split at hm
   ·rename_i c1 ob1 m1 h1;cases hm;obtain⟨g,cur,bs',e1,h2,h3,e2⟩:=hr;subst e1 e2;obtain⟨used,us,e3,h4,h5,h6,h7,h8,h9⟩:=tB1 h3 h1;subst e3;refine⟨b::used,.pointer (some ⟨g,0,none⟩)::us,rfl,by simp[h4],by simp[blks,blkV]at h5 ⊢;exact h5,by simp[h6],⟨⟨T,c1,rfl⟩,h7⟩,⟨_,us,rfl,rfl,zP h8⟩,fun γ' hg=>?_⟩;simp only[qF2,List.cons.injEq]at hg;obtain⟨h10,h11⟩:=h9 γ' hg.2;refine⟨⟨⟨g,hg.1,rfl⟩,trivial⟩,fun n o hn=>?_⟩;rcases pE2.1 hn with hn | hn
    ·cases hn;exact⟨g,cur,hg.1,h2,h10⟩
    ·exact h11 n o hn
   ·cases hm
 | .fn f sh,x,ns,vs,bs,c,ob',rest,hr,hm=>by
  simp only[Sh.mk]at hm;split at hm
  ·rename_i c1 ob1 m1 h1;split at h1
   ·rename_i ha;cases hm;obtain⟨ps,e1,hkw,h2⟩:=hr;subst e1;obtain⟨used,us,e3,h4,h5,h6,h7,h8,h9⟩:=tB1 h2 h1;refine⟨used,us,e3,h4,h5,h6,h7,⟨_,rfl,by rw[fB1 hkw];exact h8⟩,fun γ' hg=>?_⟩;obtain⟨h10,h11⟩:=h9 γ' hg;obtain⟨h12,h13⟩:=mX ha h2 h1 h10;exact⟨⟨⟨by rw[←h12],by rw[←h12];exact hkw,h13⟩,trivial⟩,h11⟩
   ·cases h1
  ·cases hm
 | .rcd sh,x,ns,vs,bs,c,ob',rest,hr,hm=>by have h0:(if sh.flat=true then sh.mk ns x else none)=some (c,ob',rest):=hm;rw[if_pos hr.1]at h0;exact tB1 (s:=sh) hr.2 h0
theorem tB1 :∀{s:Shs} {x:s.T.D} {ns:List Nat} {vs:List Value} {bs:List Nat} {c:List Lf} {ob':List (Nat×Ob)} {rest:List Nat},s.Rep w Z x vs bs→s.mk ns x=some (c,ob',rest)→Made w Z s.kinds (s.Top vs) ns vs bs c ob' rest
 | .nil,x,ns,vs,bs,c,ob',rest,hr,hm=>by simp only[Shs.mk]at hm;cases hm;obtain⟨h1,h2⟩:=hr;subst h1 h2;exact⟨[],[],rfl,rfl,rfl,rfl,trivial,rfl,fun γ' _=>⟨trivial,by simp⟩⟩
 | .cons s l,x,ns,vs,bs,c,ob',rest,hr,hm=>by
  simp only[Shs.mk]at hm;split at hm
  ·rename_i c1 ob1 m1 h1;split at hm
   ·rename_i c2 ob2 m2 h2;cases hm;obtain⟨a,b,d,e,e1,e2,h3,h4⟩:=hr;subst e1 e2;obtain⟨used,us,e3,h5,h6,h7,h8,h9,h10⟩:=qB2 h3 h1;obtain⟨used',us',e4,h5',h6',h7',h8',h9',h10'⟩:=tB1 h4 h2;subst e3 e4;refine⟨used++used',us++us',by rw[uE2],by simp[h5,h5'],by rw[sH,h6,h6'],by simp[h7,h7'],All2.append h8 h8',⟨a,b,us,us',rfl,rfl,yB2 h3,h9,h9'⟩,fun γ' hg=>?_⟩;rw[mF2]at hg;obtain⟨hg1,hg2⟩:=List.append_inj hg (by simp[h5]);obtain⟨h11,h12⟩:=h10 γ' hg1;obtain⟨h11',h12'⟩:=h10' γ' hg2;exact⟨All2.append h11 h11',fun n o hn=>(xE2.1 hn).elim (h12 n o) (h12' n o)⟩
   ·cases hm
  ·cases hm
end
def Shs.TopA :Shs→List Value→List Value→Prop
 | .nil,vs,us=>vs=[]∧us=[]
 | .cons s l,vs,us=>∃v vs' c d cs,vs=v::vs'∧us=c++d∧(if s.agg=true then v = .agg (List.toArray cs)else cs=[v])∧s.Top cs c∧l.TopA vs' d
theorem tN1 {a b:Bool} (h:beqB a b=true):a=b:=by cases a <;> cases b <;> first | rfl | cases h
theorem oP (hob:∀n o,look ob n=some o→ObOK w Z γ n o) (hz:∀k,Z k→Z' k):∀{s:Shs} {l:List Slot} {x:s.T.D} {ns:List Nat} {vs:List Value},s.takeA ob l=some (x,ns)→All2 (SlotOK w Z γ ob) l vs →
  (∀r∈rowNames (s.valsA ob l),(look ob r).isSome=true → ∀k,blkV (γ r)=some k→Z' k)→s.RepA w Z' x vs (blks (ns.map γ))∧All2 (KOK ob) s.kinds ns∧s.TopA vs (ns.map γ)
 | .nil,l,x,ns,vs,h,hl,_=>by
  simp only[Shs.takeA]at h;split at h
  ·cases h
   cases vs with
   | nil=>exact⟨⟨rfl,rfl⟩,trivial,rfl,rfl⟩
   | cons _ _=>exact hl.elim
  ·cases h
 | .cons s r,l,x,ns,vs,h,hl,hn=>by
  cases l with
  | nil=>simp only[Shs.takeA]at h;cases h
  | cons y l=>
   cases vs with
   | nil=>exact hl.elim
   | cons v vs=>
    simp only[Shs.takeA]at h;split at h
    ·rename_i cl hcl;split at h
     ·rename_i hag;have hag:=tN1 hag;split at h
      ·rename_i z a hy;split at h
       ·rename_i z' b hzz;cases h;simp only[Shs.valsA,hcl,rG]at hn;obtain⟨hc1,_⟩:=nL hl.1 hcl;obtain⟨h1,h2,h3,h4⟩:=jZ hob hz hy hc1 fun r hr=>hn r (bF2 _ hr)
        obtain⟨h5,h6,h7⟩:=oP hob hz hzz hl.2 fun r hr=>hn r (tE2 _ hr)
        rw[mF2,sH]
        have hv:if s.agg=true then v = .agg (List.toArray v.cells.toList)else v.cells.toList=[v]:=by
         rw[←hag]
         cases y with
         | ag m=>
          obtain⟨cs,e,_⟩:=hl.1;subst e;simp[Slot.isAg,Value.cells]
         | lf c=>
          simp only[Slot.isAg,pF2,if_false];simp only[Slot.cells]at hcl;split at hcl
          ·rename_i hk;have h1:=LfOK.one hl.1 hk;cases v <;> first | rfl | cases h1
          ·cases hcl
         | _=>cases hcl
        exact⟨⟨v,vs,_,_,rfl,rfl,⟨_,hv,h1⟩,h5⟩,All2.append h2 h6,⟨v,vs,_,_,_,rfl,rfl,hv,h3,h7⟩⟩
       ·cases h
      ·cases h
     ·cases h
    ·cases h
theorem lK1 {ag:Bool} {c:List Lf} {v:Value} {cs:List Value} (h:if ag=true then v = .agg cs.toArray else cs=[v]) (hc:All2 (LfOK w Z γ) c cs):
  (if ag=true then ∃cs,v = .agg cs∧All2 (LfOK w Z γ) c cs.toList else ∃d,c=[d]∧LfOK w Z γ d v):=by
 cases ag with
 | true=>exact⟨_,h,by simpa using hc⟩
 | false=>
  simp only[pF2,if_false]at h ⊢;subst h
  cases c with
  | nil=>exact hc.elim
  | cons d c=>
   cases c with
   | nil=>exact⟨d,rfl,hc.1⟩
   | cons _ _=>exact hc.2.elim
theorem sP1 :∀{s:Shs} {x:s.T.D} {ns:List Nat} {vs:List Value} {bs:List Nat} {c:List (Bool×List Lf)} {ob':List (Nat×Ob)} {rest:List Nat},s.RepA w Z x vs bs→s.mkA ns x=some (c,ob',rest) →
  ∃used us,ns=used++rest∧us.length=used.length∧blks us=bs∧ob'.map (·.1)=used∧All2 KMk s.kinds ob' ∧
   ∀γ':Nat→Value,used.map γ'=us→All2 (fun(y:Bool×List Lf) v=>if y.1=true then ∃cs,v = .agg cs∧All2 (LfOK w Z γ') y.2 cs.toList else ∃d,y.2=[d]∧LfOK w Z γ' d v) c vs ∧ ∀n o,(n,o)∈ob'→ObOK w Z γ' n o
 | .nil,x,ns,vs,bs,c,ob',rest,hr,hm=>by simp only[Shs.mkA]at hm;cases hm;obtain⟨h1,h2⟩:=hr;subst h1 h2;exact⟨[],[],rfl,rfl,rfl,rfl,trivial,fun γ' _=>⟨trivial,by simp⟩⟩
 | .cons s l,x,ns,vs,bs,c,ob',rest,hr,hm=>by
  simp only[Shs.mkA]at hm;split at hm
  ·rename_i c1 ob1 m1 h1;split at hm
   ·rename_i c2 ob2 m2 h2;cases hm;obtain⟨v,vs',d,e,e1,e2,⟨cs,hv,h3⟩,h4⟩:=hr;subst e1 e2;obtain⟨used,us,e3,h5,h6,h7,h8,h9,h10⟩:=qB2 h3 h1;obtain⟨used',us',e4,h5',h6',h7',h8',h10'⟩:=sP1 h4 h2;subst e3 e4;refine⟨used++used',us++us',by rw[uE2],by simp[h5,h5'],by rw[sH,h6,h6'],by simp[h7,h7'],All2.append h8 h8',fun γ' hg=>?_⟩;rw[mF2]at hg;obtain⟨hg1,hg2⟩:=List.append_inj hg (by simp[h5]);obtain⟨h11,h12⟩:=h10 γ' hg1;obtain⟨h11',h12'⟩:=h10' γ' hg2;exact⟨⟨lK1 hv h11,h11'⟩,fun n o hn=>(xE2.1 hn).elim (h12 n o) (h12' n o)⟩
   ·cases hm
  ·cases hm
theorem bM :∀{l:List Nat},nodupB l=true→l.Nodup
 | [],_=>List.nodup_nil
 | n::l,h=>by simp only[nodupB,iE2,bG2,List.any_eq_false]at h;exact vH2.2 ⟨fun hm=>h.1 n hm (beqt.2 rfl),bM h.2⟩
def upds (γ:Nat→Value):List Nat→List Value→Nat→Value
 | n::l,v::vs=>fun m=>if m=n then v else upds γ l vs m
 | _,_=>γ
theorem oH1 (γ:Nat→Value):∀(l:List Nat) (vs:List Value) (m:Nat),m∉l→upds γ l vs m=γ m
 | [],_,_,_=>rfl
 | _::_,[],_,_=>rfl
 | n::l,v::vs,m,h=>by simp only[pE2,not_or]at h;simp only[upds,if_neg h.1];exact oH1 γ l vs m h.2
theorem sG1 (γ:Nat→Value):∀{l:List Nat} {vs:List Value},l.Nodup→vs.length=l.length→l.map (upds γ l vs)=vs
 | [],[],_,_=>rfl
 | n::l,v::vs,h,hl=>by
  obtain⟨h1,h2⟩:=vH2.1 h;have ih:=sG1 γ h2 (by simpa using hl);simp only[qF2,upds,if_true]
  congr 1
  conv=>rhs;rw[←ih]
  exact oH2 fun m hm=>if_neg (fun(e:m=n)=>h1 (e ▸ hm))
 | [],_::_,_,hl=>by simp at hl
 | _::_,[],_,hl=>by simp at hl
theorem rW {γ:Nat→Value}:∀{l:List Nat},(blks (l.map γ)).Nodup → ∀n m b,n∈l→m∈l→blkV (γ n)=some b→blkV (γ m)=some b→n=m
 | [],_,n,m,b,hn,_,_,_=>by simp at hn
 | k::l,h,n,m,b,hn,hm,h1,h2=>by
  have e:blks ((k::l).map γ)=(blkV (γ k)).toList++blks (l.map γ):=rfl;rw[e]at h
  have hmem:∀j,j∈l→blkV (γ j)=some b→b∈blks (l.map γ):=fun j hj hb=>by simp only[blks,aH2,kF2];exact⟨_,⟨j,hj,rfl⟩,by simp[hb]⟩
  obtain⟨_,h4,h5⟩:=vG2.1 h;rcases pE2.1 hn with e1 | hn' <;> rcases pE2.1 hm with e2 | hm'
  ·rw[e1,e2]
  ·subst e1;exact absurd rfl (h5 b (by simp[h1]) b (hmem m hm' h2))
  ·subst e2;exact absurd rfl (h5 b (by simp[h2]) b (hmem n hn' h1))
  ·exact rW h4 n m b hn' hm' h1 h2
theorem oM {γ:Nat→Value} {l:List Nat} {b:Nat}:b∈blks (l.map γ) ↔ ∃n∈l,blkV (γ n)=some b:=by
 simp only[blks,aH2,kF2];constructor
 ·rintro⟨v,⟨n,hn,rfl⟩,hb⟩;exact⟨n,hn,by simpa using hb⟩
 ·rintro⟨n,hn,hb⟩;exact⟨_,⟨n,hn,rfl⟩,by simp[hb]⟩
theorem aO {γ:Nat→Value}:∀{l:List Nat},l.Nodup→(∀n m b,n∈l→m∈l→blkV (γ n)=some b→blkV (γ m)=some b→n=m)→(blks (l.map γ)).Nodup
 | [],_,_=>List.nodup_nil
 | k::l,h,hd=>by obtain⟨h1,h2⟩:=vH2.1 h;have e:blks ((k::l).map γ)=(blkV (γ k)).toList++blks (l.map γ):=rfl;rw[e];refine vG2.2 ⟨by cases blkV (γ k) <;> simp,aO h2 fun n m b hn hm=>hd n m b (mE2 _ hn) (mE2 _ hm),?_⟩;rintro b hb _ hb' rfl;obtain⟨n,hn,hbn⟩:=oM.1 hb';have:=hd k n b nE2 (mE2 _ hn) (by simpa using hb) hbn;subst this;exact h1 hn
end
end Go.GV
