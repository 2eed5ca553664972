/-
Part of the words that MeetSpans is proved with: no statement of its own, no conditions.
-/
import Derived.Test.YtegmfagkklekaaaGreatDoorFMeetSpansd
import Derived.Orders
import Derived.Lib.SliceRun
import Derived.WalkSpells
set_option linter.unusedVariables false
set_option linter.unusedSimpArgs false
namespace Go.GV
def FnB (P:Program) (GB:Nat→Prop) (G:World→Prop) (D:FnD) (x:D.par.T.D) (r:(D.res.T.app D.par.inout.T).D):Prop:=
 (∃fn c,P.funcs[D.fid]?=some fn∧fn.body=some c∧(fn.name == "runtime.NumGoroutine")=false) ∧
 ∀(w:World) (Z:Nat→Prop) (args:List Value) (bs:List Nat),G w→(∀b,GB b→b<w.heap.size∧b∉bs)→(∀b,Z b→b<w.heap.size)→bs.Nodup→(∀b∈bs,¬Z b∧b<w.heap.size) →
  D.par.RepA w Z x args bs→Calls P D.fid args.toArray w fun e w'=>∃v,e = .returned v∧Back D w Z args bs r v w'
def FnX (P:Program) (GB:Nat→Prop) (G:World→Prop) (D:FnD) (x:D.par.T.D) (r:(D.res.T.app D.par.inout.T).D):Prop:=
 ∀(w:World) (Z:Nat→Prop) (args:List Value) (bs:List Nat),G w→(∀b,GB b→b<w.heap.size∧b∉bs)→(∀b,Z b→b<w.heap.size)→bs.Nodup→(∀b∈bs,¬Z b∧b<w.heap.size) →
  D.par.RepA w Z x args bs → ∃v w',(callFunc D.fid args.toArray).run P w = .ok (.value v) w'∧Back D w Z args bs r v w'
def FnOK (P:Program) (GB:Nat→Prop) (G:World→Prop) (D:FnD) (x:D.par.T.D) (r:(D.res.T.app D.par.inout.T).D):Prop:=FnB P GB G D x r∨FnX P GB G D x r
def fL (GB:Nat→Prop) (G:World→Prop):Prop:=∀w w':World,w'.os=w.os→w'.tape=w.tape→(∀b,GB b→w'.heap[b]?=w.heap[b]?)→G w→G w'
section
variable {P : Program} {E : Env} {GB : Nat → Prop} {G : World → Prop} {w0 : World} {M Z0 : Nat → Prop} {γ0 : Nat → Value} {m : Nat}
structure Good (w0:World) (M Z0:Nat→Prop) (γ0:Nat→Value) (m:Nat) (s:St) (a:Act) (w:World):Prop where
 st:∃Z γ,Inv w0 M Z0 w Z γ s.ob∧SlotsOK w Z γ s.ob s.sl a.tmps∧(∀n,n<m→γ n=γ0 n)
 b:1000≤s.b
 d:a.defers=[]
theorem qM {w:World} {Z:Nat→Prop} {γ:Nat→Value} {ob:List (Nat×Ob)} {sl:List Slot} {a:Act} {d:Option Nat} {x:Slot} {v:Value} {b:Nat} (h:SlotsOK w Z γ ob sl a.tmps) (hx:SlotOK w Z γ ob x v):
  SlotsOK w Z γ ob ((⟨sl,ob,b⟩:St).setd d x).sl (a.put d v).tmps:=by
 cases d with
 | none=>exact h
 | some j=>
  refine⟨by simpa[St.setd,St.set_def,Act.put]using h.len,fun i=>?_⟩;have hi:=h.ok i;simp only[St.setd,St.set_def,Act.put,oE2,iG2]at hi ⊢;rw[List.getElem?_set,mH2];by_cases hij:j=i
  ·subst hij;by_cases hlt:j<sl.length
   ·have:j<a.tmps.size:=uF2 hlt h.len;simpa[hlt,this]using hx
   ·simp only[if_true,hlt,if_false];trivial
  ·simpa[hij]using hi
theorem nV {w:World} {Z:Nat→Prop} {γ:Nat→Value} {ob:List (Nat×Ob)} {sl:List Slot} {tm:Array Value} {j:Nat} {x:Slot} (h:SlotsOK w Z γ ob sl tm) (hx:SlotOK w Z γ ob x (tm.getD j undef)):SlotsOK w Z γ ob (sl.set j x) tm:=by
 refine⟨by simpa using h.len,fun i=>?_⟩;have hi:=h.ok i;simp only[oE2]at hi ⊢;rw[List.getElem?_set];by_cases hij:j=i
 ·subst hij;by_cases hlt:j<sl.length
  ·simpa[hlt]using hx
  ·simp only[if_true,hlt,if_false];trivial
 ·simpa[hij]using hi
theorem vP {w:World} {Z:Nat→Prop} {γ:Nat→Value} {s:St} {tm:Array Value} {j:Nat} {x:Slot} (h:SlotsOK w Z γ s.ob s.sl tm) (hx:SlotOK w Z γ s.ob x (tm.getD j undef)):SlotsOK w Z γ (s.set j x).ob (s.set j x).sl tm:=by rw[St.set_def];exact nV h hx
theorem iE (s:St) (d:Option Nat) (x:Slot):(s.setd d x).ob=s.ob∧(s.setd d x).b=s.b:=by cases d <;> exact⟨rfl,rfl⟩
theorem put_defers (a:Act) (d:Option Nat) (v:Value):(a.put d v).defers=a.defers:=by cases d <;> rfl
theorem wO {R:Type} {r:R}:∀{g:List Bool} {x:Option R},iQ g x=some r→g.all id=true∧x=some r
 | [],x,h=>⟨rfl,h⟩
 | b::l,x,h=>by
  cases b with
  | false=>cases h
  | true=>
   obtain⟨h1,h2⟩:=wO (g:=l) h;exact⟨by simpa using h1,h2⟩
theorem Good.does {s1:St} {a:Act} {o:Oper} {x:Slot} {ob':List (Nat×Ob)} {w:World} (hm:m≤1000) (hb:1000≤s1.b) (hd:a.defers=[]) {γ:Nat→Value} (hγ:∀n,n<m→γ n=γ0 n) (h:Does P w0 M Z0 w γ a o s1 x ob'):
  ∃v w',((execOp a.eval o).run P w = .ok (.value v) w'∨((execOp a.eval o).run P w = .ok .skip w'∧v=undef))∧Good w0 M Z0 γ0 m ((s1.withOb ob').setd o.dst x) (a.put o.dst v) w':=by
 obtain⟨v,w',Z',γ',hr,hi,hx,hs,hk⟩:=h;refine⟨v,w',hr,⟨⟨Z',γ',by rw[(iE _ _ _).1];exact hi,?_,fun n hn=>(hk hb n (by omega)).trans (hγ n hn)⟩,by rw[(iE _ _ _).2];exact hb,by rw[put_defers];exact hd⟩⟩;have:=qM (b:=s1.b) (d:=o.dst) hs hx;rw[(iE _ _ _).1];exact this
def selF :List (ByteArray×Nat)→ByteArray→Option Nat
 | [],_=>none
 | (c,off)::l,x=>if(x.toList==c.toList)=true then some off else selF l x
def selV (g:Nat) (q:Option Nat):Value:=match q with | some off=>.pointer (some ⟨g,off,none⟩) | none=>.pointer none
def uF1 (P:Program) (E:Env):Prop:=∀f l,look E.sels f=some l→(∃fn c,P.funcs[f]?=some fn∧fn.body=some c∧(fn.name == "runtime.NumGoroutine")=false) ∧
 ∀(g:Nat) (x:ByteArray) (w:World),Calls P f #[.pointer (some ⟨g,0,none⟩),.string x] w fun e w'=>e = .returned (selV g (selF l x))∧w'=w
theorem hC1 {R:Type} {K:Option Nat→Option R} {r:R} {x:ByteArray}:∀{l:List (ByteArray×Nat)},selK l x K=some r→K (selF l x)=some r
 | [],h=>h
 | (c,off)::l,h=>by
  unfold selK at h;unfold selF;cases hb:(x.toList==c.toList)with
  | true=>rw[hb,cond_true]at h;rw[if_pos rfl];exact h
  | false=>rw[hb,cond_false]at h;rw[if_neg (by simp)];exact hC1 h
def EvOK (P:Program) (GB:Nat→Prop) (G:World→Prop) (E:Env) (ev:Ev E):Prop:=
 uF1 P E ∧ ∀key x r,ev key x=some r → ∀D (h:look E.fn key=some D),FnOK P GB G D (cast (by rw[Env.argT,h]) x) (cast (by rw[Env.resT,h]) r)
theorem Good.g {s:St} {a:Act} {w:World} (h:Good w0 M Z0 γ0 m s a w) (hst:fL GB G) (hG:G w0) (hGB:∀b,GB b→b<w0.heap.size ∧ ¬M b):G w ∧ ∀b,GB b→b<w.heap.size:=by obtain⟨⟨Z,γ,hi,_⟩,_,_⟩:=h;exact⟨hst w0 w hi.frm.os hi.frm.tape (fun b hb=>hi.frm.block b (hGB b hb).1 (hGB b hb).2) hG,fun b hb=>uF2 (hGB b hb).1 hi.frm.size⟩
theorem zP1 {R:Type} {ev:Ev E} {inl:FuncId→List Slot→St→(Slot→List (Nat×Ob)→Option R)→Option R} {s:St} {d:Option Nat} {K:St→Option R} {r:R} {f:Nat} {x:(E.argT f).D} {k:(E.resT f).D→Option (Slot×List (Nat×Ob))}
  (h:(Out.callN f x k (E.resT f).optQ).cps ev inl s d K=some r):(Out.call f x k).cps ev inl s d K=some r:=by
 simp only[Out.cps,lF2]at h ⊢;obtain⟨r',h1,h2⟩:=h;refine⟨r',h1,?_⟩;have hq:=Tys.optQ_eq (E.resT f) r'
 cases hb:((E.resT f).optQ r').1 with
 | true=>
  rw[hb]at h2 hq;rw[cond_true,hq]at h2;exact h2
 | false=>
  rw[hb]at h2 hq;rw[cond_false,hq]at h2;exact h2
theorem dH1 (hst:fL GB G) (hG:G w0) (hGB:∀b,GB b→b<w0.heap.size ∧ ¬M b) (hm:m≤1000) {R:Type} {ev:Ev E} (hev:EvOK P GB G E ev) {inl:FuncId→List Slot→St→(Slot→List (Nat×Ob)→Option R)→Option R}
  {s s1:St} {a:Act} {w:World} {o:Oper} {out:Out E} {f:FuncId} {xs:List Operand} {caps:List Slot} {cs:List Nat} (hinl:E.inl=[]) (h:jG E s o.dst f xs caps=some (s1,out)) {K:St→Option R} {r:R} (hr:out.cps ev inl s1 o.dst K=some r)
  (hg:Good w0 M Z0 γ0 m s a w) (hcaps:caps=cs.map fun b=>.lf (.p b 0)) {a0:Act} {F:Act→World→Prop} (hF:∀s' v w',K s'=some r→Good w0 M Z0 γ0 m s' (a.put o.dst v) w'→F (a0.put o.dst v) w')
  (hcs:∀Z γ,SlotsOK w Z γ s.ob s.sl a.tmps→(∀b∈cs,∃g,γ b = .pointer (some ⟨g,0,none⟩))∧(execOp a0.eval o).run P w=(callFunc f (xs.map a.eval++cs.map γ).toArray).run P w) {Q:Exit→Act→World→Prop}:
  o.wp P a0 w F Q:=by
 have hGw:=hg.g hst hG hGB;obtain⟨⟨Z,γ,hi,hs,hγ⟩,hb,hd⟩:=hg;obtain⟨hcs1,hrun⟩:=hcs Z γ hs;unfold jG at h;split at h
 ·cases h
 ·rw[hinl]at h;simp only[look]at h;split at h
  ·cases h
  ·rename_i key _;split at h
   ·cases h
   ·rename_i D hD;split at h
    ·rename_i hf;have hf:=beqt.1 hf;split at h
     ·rename_i s2 x k hc;simp only[Option.some.injEq,Prod.mk.injEq]at h;obtain⟨h1,h2⟩:=h
      have hr:(Out.call key (cast (by rw[Env.argT,hD]) x) fun r=>k (cast (by rw[Env.resT,hD]) r)).cps ev inl s1 o.dst K=some r:=by
       subst h2;split at hr
       ·exact zP1 hr
       ·exact hr
      subst h1;simp only[Out.cps,lF2]at hr;obtain⟨r',hr1,hr2⟩:=hr;have hfn:=hev.2 key _ r' hr1 D hD;simp only[cast_cast,cast_eq]at hfn;obtain⟨Zc,bs,h3,h4,h5,h6,h7,h8⟩:=lU1 hc hi hs hb hcaps hcs1;have hpre:(∀b,GB b→b<w.heap.size∧b∉bs)∧(∀b∈bs,¬Zc b∧b<w.heap.size):=⟨fun b hbb=>⟨hGw.2 b hbb,fun hx=>(hGB b hbb).2 ((h5 b hx).2.2 (hGB b hbb).1)⟩,fun b hbb=>⟨(h5 b hbb).1,(h5 b hbb).2.1⟩⟩
      split at hr2
      ·rename_i y l hk
       have fin:∀v w',Back D w Zc (xs.map a.eval++cs.map γ) bs (cast (by rw[Env.resT,hD]) r') v w'→F (a0.put o.dst v) w':=by intro v w' hbk;obtain⟨Zn,γn,h9,h10,h11,h12⟩:=h8 _ y l v w' hk hbk;refine hF _ v w' hr2 ⟨⟨Zn,γn,by rw[(iE _ _ _).1];exact h9,?_,fun n hn=>(h12 n (by omega)).trans (hγ n hn)⟩,by rw[(iE _ _ _).2];show 1000≤s2.b;omega,by rw[put_defers];exact hd⟩;rw[(iE _ _ _).1];exact qM h11 h10
       rcases hfn with⟨⟨fn,c,hfn1,hfn2,hfn3⟩,hcall⟩ | hext
       ·have hcalls:=hcall w Zc _ bs hGw.1 hpre.1 h6 h4 hpre.2 h3;unfold Oper.wp;rw[hrun];have hen:(callFunc f (xs.map a.eval++cs.map γ).toArray).run P w = .ok (.enter f (xs.map a.eval++cs.map γ).toArray) w:=by
         have h1:fn.name ≠ "runtime.NumGoroutine" :=by simpa using hfn3
         rw[←hf];simp[callFunc,hfn1,h1,hfn2]
        rw[hen,Oper.upon_enter,←hf];refine Calls.mono hcalls fun e w' he=>?_
        obtain⟨v,rfl,hbk⟩:=he;exact fin v w' hbk
       ·obtain⟨v,w',hv,hbk⟩:=hext w Zc _ bs hGw.1 hpre.1 h6 h4 hpre.2 h3;unfold Oper.wp;rw[hrun,←hf,hv];exact fin v w' hbk
      ·cases hr2
     ·cases h
    ·cases h
theorem hF1 (hst:fL GB G) (hG:G w0) (hGB:∀b,GB b→b<w0.heap.size ∧ ¬M b) (hm:m≤1000) {R:Type} {ev:Ev E} (hev:EvOK P GB G E ev) {inl:FuncId→List Slot→St→(Slot→List (Nat×Ob)→Option R)→Option R}
  {s s1:St} {a:Act} {w:World} {o:Oper} {out:Out E} {f:FuncId} {xs:List Operand} {caps:List Slot} {cs:List Nat} (hinl:E.inl=[]) (h:jG E s o.dst f xs caps=some (s1,out)) {K:St→Option R} {r:R} (hr:out.cps ev inl s1 o.dst K=some r)
  (hg:Good w0 M Z0 γ0 m s a w) (hcaps:caps=cs.map fun b=>.lf (.p b 0)) (hcs:∀Z γ,SlotsOK w Z γ s.ob s.sl a.tmps→(∀b∈cs,∃g,γ b = .pointer (some ⟨g,0,none⟩)) ∧ ∀w',(execOp a.eval o).run P w'=(callFunc f (xs.map a.eval++cs.map γ).toArray).run P w') {Q:Exit→Act→World→Prop}:
  o.wp P a w (fun a' w'=>∃s',K s'=some r∧Good w0 M Z0 γ0 m s' a' w') Q:=
 dH1 hst hG hGB hm hev hinl h hr hg hcaps (fun s' _ _ h1 h2=>⟨s',h1,h2⟩) fun Z γ hs=>⟨(hcs Z γ hs).1,(hcs Z γ hs).2 w⟩
theorem fX {T:TypeId} {name:String} {f:FuncId} {d:Option TypeId} (h:jH1 P (T,name,f,d)=true) (ad:Addr) (w:World) {rv:Value} (hd:match d with | none=>rv = .pointer (some ad) | some U=>(loadVar U ad).run P w = .ok rv w) (args:Array Value):
  (callMethod (.iface T (.pointer (some ad))) name args).run P w=(callFunc f (#[rv]++args)).run P w:=by
 simp only[jH1,iE2]at h;obtain⟨hsz,h⟩:=h;split at h
 ·rename_i i e hi hu;split at h
  ·rename_i mt hmt;simp only[iE2]at h;obtain⟨hp,h⟩:=h;split at h
   ·rename_i f' ptr hfn;simp only[iE2,beqt]at h;obtain⟨hf,hk⟩:=h;subst hf;have hsz:=rF2 hsz;obtain⟨n,hn⟩:∃n,P.types.size+Made.depth=n+1:=⟨P.types.size+Made.depth-1,by omega⟩
    have hpath:mt.path = #[]:=by simpa using hp
    unfold callMethod;simp only[Sem.run_bind,run_program,Result.andThen_ok,hn,method,typeInfo,hi,Sem.run_pure,hmt,hpath,follow,hfn,receiverAt,run_underlying hu,Place.get]
    cases d with
    | none=>
     have hk:ptr=true:=hk;subst hk;have hd:rv = .pointer (some ad):=hd;subst hd;simp
    | some U=>
     have hk:(!ptr&&Nat.beq U e)=true:=hk;simp only[iE2,bG2,beqt]at hk;obtain⟨h1,h2⟩:=hk;subst h1 h2;have hd:(loadVar U ad).run P w = .ok rv w:=hd;have hchk:∀nm:String,(Builtin.ssaWrapNilChk_ #[T] T #[.pointer (some ad),strVal "",strVal nm]).run P w = .ok (.pointer (some ad)) w:=fun _=>rfl
     simp[hchk,asAddr,hd]
   ·cases h
  ·cases h
 ·cases h
theorem sD1 (n:Nat):Nat.beq n n=true:=beqt.2 rfl
theorem hN1 {s':St} {a:Act} {w':World} {Z:Nat→Prop} {γ:Nat→Value} {r:Nat} {rv v:Value} {d:Option Nat} (hs:SlotsOK w' Z γ s'.ob s'.sl ((a.put (some r) rv).put d v).tmps) (hd:∀k,d=some k→k≠r):SlotsOK w' Z γ (s'.set r (.lf .u)).ob (s'.set r (.lf .u)).sl (a.put d v).tmps:=by
 have hsz:((a.put (some r) rv).put d v).tmps.size=(a.put d v).tmps.size:=by cases d <;> simp[Act.put]
 refine⟨by have:=hs.len;simp only[St.set_def,uH2];omega,fun i=>?_⟩;by_cases hi:i=r
 ·subst hi;have:(s'.set i (.lf .u)).sl.getD i (.lf .u) = .lf .u:=by simp only[St.set_def,oE2,List.getElem?_set];simp only[if_true];split <;> rfl
  rw[this];trivial
 ·have h1:(s'.set r (.lf .u)).sl.getD i (.lf .u)=s'.sl.getD i (.lf .u):=by simp only[St.set_def,oE2,List.getElem?_set_ne (Ne.symm hi)]
  have h2:(a.put d v).tmps.getD i undef=((a.put (some r) rv).put d v).tmps.getD i undef:=by
   cases d with
   | none=>simp[Act.put,iG2,mH2,Ne.symm hi]
   | some k=>
    simp only[Act.put,iG2,mH2,Array.size_setIfInBounds];by_cases hk:k=i
    ·subst hk;simp
    ·simp[hk,Ne.symm hi]
  rw[h1,h2];exact hs.ok i
theorem vV {o:Oper} {a:Act} {w w':World} {v:Value} {K:Act→World→Prop} {Q:Exit→Act→World→Prop} (hr:(execOp a.eval o).run P w = .ok (.value v) w'∨((execOp a.eval o).run P w = .ok .skip w'∧v=undef)) (h:K (a.put o.dst v) w'):o.wp P a w K Q:=by
 unfold Oper.wp;rcases hr with hr | ⟨hr,e⟩
 ·rw[hr];exact h
 ·subst e;rw[hr];exact h
theorem pK {s s1:St} {d:Option Nat} {f:FuncId} {xs:List Operand} {caps:List Slot} {out:Out E} (hinl:E.inl=[]) (h:jG E s d f xs caps=some (s1,out)):∃key x k q,out = .call key x k∨out = .callN key x k q:=by
 unfold jG at h;split at h
 ·cases h
 ·rw[hinl]at h;simp only[look]at h;split at h
  ·cases h
  ·split at h
   ·cases h
   ·split at h
    ·split at h
     ·simp only[Option.some.injEq,Prod.mk.injEq]at h;have h2:=h.2;split at h2
      ·exact⟨_,_,_,_,.inr h2.symm⟩
      ·exact⟨_,_,_,Tys.optQ _,.inl h2.symm⟩
     ·cases h
    ·cases h
theorem tJ {s s1:St} {o:Oper} {out:Out E} (h:step E s o=some (s1,out)):
  (∃g x ob,out = .go g x ob)∨(∃c y z,o.op = .pick c y z) ∨ ∃c y,o.op = .call c∧c.callee = .value y:=by
 cases ho:o.op with
 | pick c y z=>exact .inr (.inl ⟨_,_,_,rfl⟩)
 | call c=>
  cases hb:c.callee with
  | value y=>exact .inr (.inr ⟨c,y,rfl,hb⟩)
  | invoke r m=>simp only[step,ho,hb]at h;cases h
  | builtin b=>
   refine .inl ?_;cases b <;> first
    | (simp only[step,ho,hb]at h;cases h;done)
    | (simp only[step,ho,hb,appd]at h;(repeat' (split at h)) <;> first | (cases h;done) | (cases h;exact⟨_,_,_,rfl⟩))
 | slice T y lo hi mx=>
  refine .inl ?_;cases mx <;> simp only[step,ho]at h <;> (repeat' (split at h)) <;> first | (cases h;done) | (cases h;exact⟨_,_,_,rfl⟩)
 | typeAssert y T U b=>
  refine .inl ?_;cases b <;> simp only[step,ho]at h <;> (repeat' (split at h)) <;> first | (cases h;done) | (cases h;exact⟨_,_,_,rfl⟩)
 | makeFunc f l m=>
  refine .inl ?_;cases f <;> simp only[step,ho]at h <;> (repeat' (split at h)) <;> first | (cases h;done) | (cases h;exact⟨_,_,_,rfl⟩)
 | _=>
  refine .inl ?_;simp only[step,ho]at h
  first
   | (cases h;done)
   | (cases h;exact⟨_,_,_,rfl⟩)
   | ((repeat' (split at h)) <;> first | (cases h;done) | (cases h;exact⟨_,_,_,rfl⟩))
theorem uR1 (henv:kF P E=true) {R:Type} {s:St} {a:Act} {w:World} {Z:Nat→Prop} {γ:Nat→Value} {o:Oper} {g e:Bool} {K:Bool→Option R} {r:R} (h:nilC E s o=some (g,e)) (hs:SlotsOK w Z γ s.ob s.sl a.tmps) (hk:nilK g e K=some r):
  ∃b,(execOp a.eval o).run P w = .ok (.value (.bool b)) w∧K b=some r:=by
 have fin:∀q:Bool,(g=true→q=false)→K (if e=true then q else !q)=some r:=by
  intro q hq
  cases g with
  | true=>
   rw[hq rfl];have hk:K (!e)=some r:=hk;cases e <;> exact hk
  | false=>
   have hk:yW (K e) (K (!e))=some r:=hk;unfold yW at hk;split at hk
   ·rename_i hk2;have hk3:K (!e)=some r:=by rw[←hk2];exact hk
    cases e <;> cases q <;> first | exact hk | exact hk3
   ·cases hk
 unfold nilC at h;split at h
 ·rename_i op T x y bx ho;split at h
  ·rename_i e1 t1 xs e2 t2 h1 h2 h3;have hx:=wE h1 hs;have hy:a.eval y = .slice none 0 0:=wE h2 hs;have hT:=(gF (uE henv h3)).1;obtain⟨A,n,c,hv,hA⟩:∃A n c,a.eval x = .slice A n c∧(0<(xs:List t1.D).length→A.isNone=false):=by
    have hx:(Ty.row e1 t1).Rep w Z xs [a.eval x]:=hx;obtain⟨A,cap,news,e,_,_,h4⟩:=hx;refine⟨A,_,cap,by simpa using e,fun hp=>?_⟩;rcases h4 with⟨h5,_⟩ | ⟨ad,rfl,_⟩
    ·rw[h5]at hp;exact absurd hp (by simp)
    ·rfl
   have q1:(binOp .eql T (.slice A n c) (.slice none 0 0)).run P w = .ok (.bool A.isNone) w:=Lib.run_eql_slice_nil w _ _ A n c 0 0 hT;have q2:(binOp .neq T (.slice A n c) (.slice none 0 0)).run P w = .ok (.bool (!A.isNone)) w:=run_neq_slice_nil_any w _ _ A n c 0 0 hT;split at h
   ·cases h;refine⟨A.isNone,?_,fin A.isNone fun hq=>hA (of_decide_eq_true hq)⟩;simp only[execOp,ho,Sem.run_bind,hv,hy,rF (P:=P) (w:=w) (op:=.eql) (T:=T) (x:=x) (y:=y) (u:=.slice A n c) (v:=.slice none 0 0) (by simp) (by simp),q1,Sem.run_pure,Result.andThen_ok]
   ·cases h;refine⟨!A.isNone,?_,fin A.isNone fun hq=>hA (of_decide_eq_true hq)⟩;simp only[execOp,ho,Sem.run_bind,hv,hy,rF (P:=P) (w:=w) (op:=.neq) (T:=T) (x:=x) (y:=y) (u:=.slice A n c) (v:=.slice none 0 0) (by simp) (by simp),q2,Sem.run_pure,Result.andThen_ok]
   ·cases h
  ·rename_i e2 t2 h1 h2 h3;have hx:a.eval x = .slice none 0 0:=wE h1 hs;have hy:a.eval y = .slice none 0 0:=wE h2 hs;have hT:=(gF (uE henv h3)).1;have q1:(binOp .eql T (.slice none 0 0) (.slice none 0 0)).run P w = .ok (.bool true) w:=Lib.run_eql_slice_nil w _ _ none 0 0 0 0 hT;have q2:(binOp .neq T (.slice none 0 0) (.slice none 0 0)).run P w = .ok (.bool false) w:=run_neq_slice_nil_any w _ _ none 0 0 0 0 hT;split at h
   ·cases h;refine⟨true,?_,hk⟩;simp only[execOp,ho,Sem.run_bind,hx,hy,rF (P:=P) (w:=w) (op:=.eql) (T:=T) (x:=x) (y:=y) (u:=.slice none 0 0) (v:=.slice none 0 0) (by simp) (by simp),q1,Sem.run_pure,Result.andThen_ok]
   ·cases h;refine⟨false,?_,hk⟩;simp only[execOp,ho,Sem.run_bind,hx,hy,rF (P:=P) (w:=w) (op:=.neq) (T:=T) (x:=x) (y:=y) (u:=.slice none 0 0) (v:=.slice none 0 0) (by simp) (by simp),q2,Sem.run_pure,Result.andThen_ok]
   ·cases h
  ·cases h
 ·cases h
theorem wI1 (henv:kF P E=true) (hinl:E.inl=[]) (hst:fL GB G) (hG:G w0) (hGB:∀b,GB b→b<w0.heap.size ∧ ¬M b) (hm:m≤1000) {R:Type} {ev:Ev E} (hev:EvOK P GB G E ev)
  {inl:FuncId→List Slot→St→(Slot→List (Nat×Ob)→Option R)→Option R} {s:St} {a:Act} {w:World} {o:Oper} {K:St→Option R} {r:R} (h:vM E ev inl s o K=some r) (hg:Good w0 M Z0 γ0 m s a w) {Q:Exit→Act→World→Prop}:
  o.wp P a w (fun a' w'=>∃s',K s'=some r∧Good w0 M Z0 γ0 m s' a' w') Q:=by
 unfold vM at h;split at h
 ·rename_i s1 out hs1;split at h
  ·rename_i hb1;have hb1:=beqt.1 hb1;have hb:=hg.b;rcases tJ hs1 with⟨g,x,ob',rfl⟩ | ⟨c,y,z,ho⟩ | ⟨c,y,ho,hc⟩
   ·obtain⟨h1,h2⟩:=wO h;obtain⟨⟨Z,γ,hi,hs,hγ⟩,_,hd⟩:=hg;obtain⟨v,w',hr,hgd⟩:=Good.does (γ0:=γ0) hm (by omega) hd hγ (wX1 henv hs1 h1 hi hs);exact vV hr ⟨_,h2,hgd⟩
   ·simp only[step,ho]at hs1;split at hs1
    ·rename_i cb x1 x2 h1 h2 h3;cases hs1;obtain⟨⟨Z,γ,hi,hs,hγ⟩,_,hd⟩:=hg;have hcv:=xP h1 hs
     have hrun:∀b:Bool,a.eval c = .bool b→(execOp a.eval o).run P w = .ok (.value (if b=true then a.eval y else a.eval z)) w:=by intro b hcv;simp only[execOp,ho,Sem.run_bind,hcv,asBool,Sem.run_pure,Result.andThen_ok]
     have hrun:=hrun cb hcv;refine vV (.inl hrun) ?_;simp only[Out.cps]at h
     cases cb with
     | true=>exact⟨_,h,⟨⟨Z,γ,by rw[(iE _ _ _).1];exact hi,by rw[(iE _ _ _).1];exact qM (b:=s.b) hs (gG h2 hs),hγ⟩,by rw[(iE _ _ _).2];exact hb,by rw[put_defers];exact hd⟩⟩
     | false=>exact⟨_,h,⟨⟨Z,γ,by rw[(iE _ _ _).1];exact hi,by rw[(iE _ _ _).1];exact qM (b:=s.b) hs (gG h3 hs),hγ⟩,by rw[(iE _ _ _).2];exact hb,by rw[put_defers];exact hd⟩⟩
    ·cases hs1
   ·have hmk:∀(f:FuncId) (ps:List Value) w',a.eval y = .func (.func f) #[] ps.toArray→(execOp a.eval o).run P w'=(callFunc f (c.args.toList.map a.eval++ps).toArray).run P w':=by
     intro f ps w' hv;have:(c.args.map a.eval++ps.toArray)=(c.args.toList.map a.eval++ps).toArray:=by apply Array.ext';simp
     simp only[execOp,ho,resolve,hc,Deferred.ofValue,hv,pure_bind,invoke,Array.empty_append,this]
    cases y with
    | func f=>
     simp only[step,ho,hc]at hs1;exact hF1 hst hG hGB hm hev (cs:=[]) hinl hs1 h hg rfl (fun Z γ hs=>⟨by simp,fun w'=>by simpa using hmk f [] w' rfl⟩)
    | tmp t=>
     simp only[step,ho,hc]at hs1;split at hs1
     ·rename_i f cs hf;split at hs1
      ·rename_i hfb
       exact hF1 hst hG hGB hm hev (cs:=cs) hinl hs1 h hg rfl (fun Z γ hs=>by
        have hv:=wE hf hs
        exact⟨hv.2.2,fun w'=>hmk f _ w' (hv.1.trans (tF1 hfb _))⟩)
      ·cases hs1
     ·cases hs1
    | const v=>
     simp only[step,ho,hc]at hs1;split at hs1
     ·rename_i f cs hf;split at hs1
      ·rename_i hfb
       exact hF1 hst hG hGB hm hev (cs:=cs) hinl hs1 h hg rfl (fun Z γ hs=>by
        have hv:=wE hf hs
        exact⟨hv.2.2,fun w'=>hmk f _ w' (hv.1.trans (tF1 hfb _))⟩)
      ·cases hs1
     ·cases hs1
    | global g=>simp only[step,ho,hc,St.opnd]at hs1;cases hs1
  ·cases h
 ·split at h
  ·rename_i rt f s0 xs hiv;split at h
   ·rename_i s1 out hs1;split at h
    ·obtain⟨⟨Z,γ,hi,hs,hγ⟩,hb,hd⟩:=id hg;unfold invk at hiv;split at hiv
     ·rename_i c ho;split at hiv
      ·rename_i r0 name hc;split at hiv
       ·rename_i W b hsl;split at hiv
        ·rename_i hcnd;simp only[iE2]at hcnd;obtain⟨hW,hdst⟩:=hcnd;have hW:=rF2 hW;obtain⟨T,hT⟩:∃T,W=ifB+T:=⟨W-ifB,(Nat.add_sub_cancel' hW).symm⟩
         subst hT;rw[Nat.add_sub_cancel_left]at hiv;have hlen:r0<s.sl.length:=by
          refine Nat.lt_of_not_le fun hle=>?_
          have:s.get r0 = .lf .u:=by simp[St.get_def,oE2,uG2 hle]
          rw[this]at hsl;cases hsl
         have hv:=hs.ok r0;rw[show s.sl.getD r0 (.lf .u) = .lf (.fn (ifB+T) [b])from(St.get_def s r0).symm.trans hsl]at hv;obtain⟨hv1,_,hv3⟩:=hv;obtain⟨gg,hgg⟩:=hv3 b nE2;have hv1:a.tmps.getD r0 undef = .iface T (.pointer (some ⟨gg,0,none⟩)):=by rw[hv1,qF2,List.map_nil,hgg,eB2]
         have hdne:∀d,o.dst=some d→d≠r0:=by intro d hd e;rw[hd,e]at hdst;simp[wV1,sD1]at hdst
         have key:∀(y:Slot) (rv:Value),SlotOK w Z γ s.ob y rv→(∀args,(callMethod (.iface T (.pointer (some ⟨gg,0,none⟩))) name args).run P w=(callFunc f (#[rv]++args)).run P w) →
           c.args.all (cH1 r0)=true→jG E (s.set r0 y) o.dst f (.tmp r0::c.args.toList) []=some (s1,out)→out.cps ev inl s1 o.dst (fun s'=>K (s'.set r0 (.lf .u)))=some r →
           o.wp P a w (fun a' w'=>∃s',K s'=some r∧Good w0 M Z0 γ0 m s' a' w') Q:=by
          intro y rv hy hmeth hargs hco hcp;have hgd:Good w0 M Z0 γ0 m (s.set r0 y) (a.put (some r0) rv) w:=⟨⟨Z,γ,hi,qM (b:=s.b) (d:=some r0) hs hy,hγ⟩,hb,by rw[put_defers];exact hd⟩
          have hF:∀s' v w',(fun s'=>K (s'.set r0 (.lf .u))) s'=some r→Good w0 M Z0 γ0 m s' ((a.put (some r0) rv).put o.dst v) w'→(fun a' w'=>∃s',K s'=some r∧Good w0 M Z0 γ0 m s' a' w') (a.put o.dst v) w':=by intro s' v w' h1 h2;obtain⟨⟨Z2,γ2,hi2,hs2,hγ2⟩,hb2,hd2⟩:=h2;exact⟨_,h1,⟨Z2,γ2,hi2,hN1 hs2 hdne,hγ2⟩,hb2,by rw[put_defers];exact hd⟩
          refine dH1 hst hG hGB hm hev (cs:=[]) (a:=a.put (some r0) rv) hinl hco hcp hgd rfl hF fun Z' γ' hs'=>⟨by simp,?_⟩
          have hrt:(a.put (some r0) rv).eval (.tmp r0)=rv:=by have hl2:r0<a.tmps.size:=uF2 hlen hs.len;simp[Act.put,Act.eval,iG2,hl2]
          have hrest:c.args.toList.map (a.put (some r0) rv).eval=c.args.toList.map a.eval:=by
           refine oH2 fun x hx=>?_
           have h1:=Array.all_eq_true.1 hargs
           cases x with
           | tmp t=>
            obtain⟨q,hq,e⟩:=oG2 hx;have h2:=h1 q (by simpa using hq);rw[show c.args[q]'(by simpa using hq) = .tmp t by simpa using e]at h2;have hne:t≠r0:=fun e=>by subst e;simp[cH1,sD1]at h2
            simp[Act.put,Act.eval,iG2,mH2,Ne.symm hne]
           | _=>rfl
          rw[qF2,hrt,hrest,List.map_nil,zE2];have hev2:a.eval (.tmp r0) = .iface T (.pointer (some ⟨gg,0,none⟩)):=hv1;have hex:((#[a.eval (.tmp r0)]++c.args.map a.eval):Array Value).extract 1 (#[a.eval (.tmp r0)]++c.args.map a.eval).size=c.args.map a.eval:=by apply Array.ext';simp[cF2]
          have h0:(#[a.eval (.tmp r0)]++c.args.map a.eval:Array Value)[0]?=some (a.eval (.tmp r0)):=by rw[Array.getElem?_append_left (by simp)];rfl
          simp only[execOp,ho,resolve,hc,pure_bind,invoke,h0,hex];rw[hev2,hmeth]
          congr 2
          apply Array.ext';simp
         split at hiv
         ·rename_i x1 x2 f' hfd;have hok:=gX henv (List.mem_of_find?_eq_some hfd);have hnm:=List.find?_some hfd;simp only[iE2,beqt,beq_iff_eq]at hnm;obtain⟨e1,e2⟩:=hnm;subst e1 e2;split at hiv
          ·rename_i hargs;cases hiv;exact key (.lf (.p b 0)) (.pointer (some ⟨gg,0,none⟩)) ⟨gg,hgg,rfl⟩ (fun args=>fX hok _ w rfl args) hargs hs1 h
          ·cases hiv
         ·rename_i x1 x2 f' U hfd;have hok:=gX henv (List.mem_of_find?_eq_some hfd);have hnm:=List.find?_some hfd;simp only[iE2,beqt,beq_iff_eq]at hnm;obtain⟨e1,e2⟩:=hnm;subst e1 e2;split at hiv
          ·rename_i U' l ag n hl hcell;split at hiv
           ·rename_i y hy;split at hiv
            ·rename_i hargs;cases hiv;have hct:=wZ henv hcell;obtain⟨g2,cur,h6,h7,h8⟩:=hi.obs b _ hl;rw[hgg]at h6;cases h6;obtain⟨hn,hsl2⟩:=vQ (ob:=s.ob) hy h8;have hcs:=uA1 (off:=0) h7
             have hload:=dP (P:=P) (w:=w) hct ⟨gg,0,none⟩ (cur.toList.take n) (by rw[fF2];omega) fun j u hu=>by
              refine hcs j u ?_;rw[eH2]at hu;split at hu
              ·simpa using hu
              ·cases hu
             exact key y _ hsl2 (fun args=>fX hok _ w hload args) hargs hs1 h
            ·cases hiv
           ·cases hiv
          ·cases hiv
         ·cases hiv
        ·cases hiv
       ·cases hiv
      ·cases hiv
     ·cases hiv
    ·cases h
   ·cases h
  ·split at h
   ·rename_i b y l hsel;have h:=hC1 h;obtain⟨⟨Z,γ,hi,hs,hγ⟩,hb,hd⟩:=hg;unfold selC at hsel;split at hsel
    ·rename_i c ho;split at hsel
     ·rename_i f hc;split at hsel
      ·rename_i l' hl;split at hsel
       ·rename_i p x hargs;split at hsel
        ·rename_i b' y' hp hx;cases hsel;obtain⟨⟨fn,cc,hf1,hf2,hf3⟩,hcall⟩:=hev.1 f l hl;obtain⟨g,hg1,hg2⟩:=wE hp hs;have hx2:a.eval x = .string y:=by have:=wE hx hs;have:[a.eval x]=[Value.string y]:=this;simpa using this
         have hae:c.args.map a.eval = #[.pointer (some ⟨g,0,none⟩),.string y]:=by apply Array.ext';rw[Array.toList_map,hargs];simp[hg2,hx2]
         have hrun:(execOp a.eval o).run P w=(callFunc f #[.pointer (some ⟨g,0,none⟩),.string y]).run P w:=by simp only[execOp,ho,resolve,hc,Deferred.ofValue,Act.eval,pure_bind,invoke,Array.empty_append,Array.append_empty];rw[show(c.args.map a.eval) = #[.pointer (some ⟨g,0,none⟩),.string y]from hae]
         unfold Oper.wp;rw[hrun];have hen:(callFunc f #[.pointer (some ⟨g,0,none⟩),.string y]).run P w = .ok (.enter f #[.pointer (some ⟨g,0,none⟩),.string y]) w:=by
          have h1:fn.name ≠ "runtime.NumGoroutine" :=by simpa using hf3
          simp[callFunc,hf1,h1,hf2]
         rw[hen,Oper.upon_enter];refine Calls.mono (hcall g y w) fun e w' he=>?_
         obtain⟨rfl,rfl⟩:=he;refine⟨_,h,⟨⟨Z,γ,by rw[(iE _ _ _).1];exact hi,?_,hγ⟩,by rw[(iE _ _ _).2];exact hb,by rw[put_defers];exact hd⟩⟩;rw[(iE _ _ _).1];refine qM (b:=s.b) hs ?_
         cases selF l y with
         | none=>exact rfl
         | some off=>exact⟨g,hg1,rfl⟩
        ·cases hsel
       ·cases hsel
      ·cases hsel
     ·cases hsel
    ·cases hsel
   ·split at h
    ·rename_i g e hnil;obtain⟨⟨Z,γ,hi,hs,hγ⟩,hb,hd⟩:=hg;obtain⟨b,hr,hk⟩:=uR1 henv hnil hs h;refine vV (.inl hr) ?_;exact⟨_,hk,⟨⟨Z,γ,by rw[(iE _ _ _).1];exact hi,by rw[(iE _ _ _).1];exact qM (b:=s.b) hs (show LfOK w Z γ (.v .bool b) (.bool b)from rfl),hγ⟩,by rw[(iE _ _ _).2];exact hb,by rw[put_defers];exact hd⟩⟩
    ·cases h
theorem qY {ops:Array Oper} {tm:Array Value} {j g:Nat} (hg:(ops[j]?).bind (·.dst)=some g):yielded ops tm j=(match tm.getD g undef with | .bool b=>some b | _=>none):=by
 unfold yielded;rw[hg];simp only[hE2,iG2]
 cases tm[g]? with
 | none=>rfl
 | some v=>cases v <;> rfl
theorem kF1 (henv:kF P E=true) (hinl:E.inl=[]) (hst:fL GB G) (hG:G w0) (hGB:∀b,GB b→b<w0.heap.size ∧ ¬M b) (hm:m≤1000) {R:Type} {ev:Ev E} (hev:EvOK P GB G E ev)
  {inl:FuncId→List Slot→St→(Slot→List (Nat×Ob)→Option R)→Option R} {ops:Array Oper} {K:St→Option R} {r:R}:
  ∀(l:List Oper) (i:Nat) (s:St) (a:Act) (w:World),l=ops.toList.drop i→i+l.length=ops.size→opsK E ev inl ops l s K=some r→Good w0 M Z0 γ0 m s a w →
   wpOps P ops (fun e a w=>e = .normal ∧ ∃s',K s'=some r∧Good w0 M Z0 γ0 m s' a w) (List.range' i l.length) a w
 | [],i,s,a,w,_,_,h,hg=>⟨rfl,s,h,hg⟩
 | o::l,i,s,a,w,hl,hlen,h,hg=>by
  have hoi:ops[i]?=some o:=by have:=congrArg (·[0]?) hl;simp only[bI2,jH2,Nat.add_zero,tG2]at this;exact this.symm
  have hl':l=ops.toList.drop (i+1):=by have:=congrArg List.tail hl;simpa using this
  have hlen':i+1+l.length=ops.size:=by simp only[iF2]at hlen;omega
  have ih:∀(s:St) (a:Act) (w:World),opsK E ev inl ops l s K=some r→Good w0 M Z0 γ0 m s a w→wpOps P ops (fun e a w=>e = .normal ∧ ∃s',K s'=some r∧Good w0 M Z0 γ0 m s' a w) (List.range' (i+1) l.length) a w:=
   fun s a w=>kF1 henv hinl hst hG hGB hm hev l (i+1) s a w hl' hlen'
  simp only[iF2,cI2,wpOps,hoi]
  have doit:∀s',vM E ev inl s' o (fun s'=>opsK E ev inl ops l s' K)=some r→Good w0 M Z0 γ0 m s' a w→o.wp P a w (wpOps P ops (fun e a w=>e = .normal ∧ ∃s',K s'=some r∧Good w0 M Z0 γ0 m s' a w) (List.range' (i+1) l.length)) (fun e a w=>e = .normal ∧ ∃s',K s'=some r∧Good w0 M Z0 γ0 m s' a w):=by intro s' h1 h2;have h3:=wI1 henv hinl hst hG hGB hm hev h1 h2 (Q:=fun e a w=>e = .normal ∧ ∃s',K s'=some r∧Good w0 M Z0 γ0 m s' a w);refine Oper.wp_mono ?_ h3;rintro a' w' ⟨s2,h4,h5⟩;exact ih s2 a' w' h4 h5
  have skip:∀s' v,opsK E ev inl ops l (s'.setd o.dst (.lf .un)) K=some r→Good w0 M Z0 γ0 m s' a w→v=undef→wpOps P ops (fun e a w=>e = .normal ∧ ∃s',K s'=some r∧Good w0 M Z0 γ0 m s' a w) (List.range' (i+1) l.length) (a.put o.dst v) w:=by rintro s' v h1 ⟨⟨Z,γ,hi,hs,hγ⟩,hb,hd⟩ rfl;refine ih _ _ _ h1 ⟨⟨Z,γ,by rw[(iE _ _ _).1];exact hi,by rw[(iE _ _ _).1];exact qM (b:=s'.b) hs rfl,hγ⟩,by rw[(iE _ _ _).2];exact hb,by rw[put_defers];exact hd⟩
  simp only[opsK]at h
  cases hgd:o.guard with
  | none=>
   rw[hgd]at h;have hw:Region.wanted o (yielded ops a.tmps)=true:=by simp[Region.wanted,hgd]
   rw[if_pos hw];exact .inl (doit s h hg)
  | some jw=>
   obtain⟨j,want⟩:=jw;rw[hgd]at h;dsimp only at h;split at h
   ·rename_i gt hgt;have hy:=qY (tm:=a.tmps) hgt;obtain⟨⟨Z,γ,hi,hs,hγ⟩,hb,hd⟩:=id hg;have hslot:=hs.ok gt;split at h
    ·rename_i hsl;rw[show s.sl.getD gt (.lf .u) = .lf .un from(St.get_def s gt).symm.trans hsl]at hslot;have hv:a.tmps.getD gt undef=undef:=hslot;have hw:Region.wanted o (yielded ops a.tmps)=false:=by simp only[Region.wanted,hgd,hy,hv];rfl
     rw[hw];exact skip s _ h hg rfl
    ·rename_i c hsl;rw[show s.sl.getD gt (.lf .u) = .lf (.v .bool c)from(St.get_def s gt).symm.trans hsl]at hslot;have hv:∀c:Bool,SlotOK w Z γ s.ob (.lf (.v .bool c)) (a.tmps.getD gt undef)→a.tmps.getD gt undef = .bool c:=by intro c h;simpa only[SlotOK,LfOK,Ty.Rep,List.cons.injEq,and_true]using h
     have hv:=hv c hslot;have hw:Region.wanted o (yielded ops a.tmps)=(some (show Bool from c)==some want):=by simp only[Region.wanted,hgd,hy,hv]
     have hgs:Good w0 M Z0 γ0 m (s.set gt (.lf (.v .bool c))) a w:=by rw[St.set_def];exact⟨⟨Z,γ,hi,nV hs hslot,hγ⟩,hb,hd⟩
     cases c with
     | true=>
      cases want with
      | true=>rw[if_pos (by rw[hw];rfl)];exact .inl (doit _ h hgs)
      | false=>rw[if_neg (by rw[hw];decide)];exact skip _ _ h hgs rfl
     | false=>
      cases want with
      | true=>rw[if_neg (by rw[hw];decide)];exact skip _ _ h hgs rfl
      | false=>rw[if_pos (by rw[hw];rfl)];exact .inl (doit _ h hgs)
    ·cases h
   ·cases h
end
section
variable {E : Env} {s t s1 : St} {o : Oper}
theorem lZ {c:Lf} {n:Nat}:c.names n=true↔n∈c.nms:=by
 cases c with
 | o r=>simp only[Lf.names,Lf.nms,beqt,wF2];exact eq_comm
 | oh r _=>simp only[Lf.names,Lf.nms,beqt,wF2];exact eq_comm
 | ot r _ _=>simp only[Lf.names,Lf.nms,beqt,wF2];exact eq_comm
 | p r _=>simp only[Lf.names,Lf.nms,beqt,wF2];exact eq_comm
 | fn f cs=>simp only[Lf.names,Lf.nms,rH2,beqt];exact⟨fun⟨x,h,e⟩=>e ▸ h,fun h=>⟨n,h,rfl⟩⟩
 | _=>simp[Lf.names,Lf.nms]
theorem wB1 {l:List Lf} {n:Nat}:l.any (Lf.names n)=true↔n∈l.flatMap Lf.nms:=by simp[lZ]
theorem eK1 {x:Slot} {n:Nat}:x.names n=true↔n∈x.nms:=by
 cases x with
 | lf c=>exact lZ
 | ag l=>exact wB1
 | q l=>exact wB1
 | tp l=>simp[Slot.names,Slot.nms,lZ]
 | e r i off=>simp only[Slot.names,Slot.nms,beqt,wF2];exact eq_comm
theorem jS {x:Slot} {n:Nat} (h:n∉x.nms):x.names n=false:=by
 cases hx:x.names n with
 | false=>rfl
 | true=>exact absurd (eK1.1 hx) h
structure Agr (o:Oper) (s t:St):Prop where
 b:t.b=s.b
 op:∀y∈o.op.operands.toList,t.opnd y=s.opnd y
theorem Agr.id (h:Agr o s t):t.id o.dst=s.id o.dst:=by unfold St.id;rw[h.b]
theorem zX {α β:Type}:∀{l:List α} {m:List β},oN l m=true→l.length=m.length
 | [],[],_=>rfl
 | _::l,_::m,h=>by simp only[oN]at h;simp[zX h]
 | [],_::_,h=>by cases h
 | _::_,[],h=>by cases h
theorem aM1 {α:Type} (n:Nat):∀l:List (Nat×α),(del l n).length≤l.length∧((del l n).length=l.length→del l n=l)
 | []=>⟨rE2 _,fun _=>rfl⟩
 | (k,b)::l=>by
  obtain⟨h1,h2⟩:=aM1 n l;simp only[del];split
  ·exact⟨by simp;omega,fun h=>by simp at h;omega⟩
  ·exact⟨by simp;exact h1,fun h=>by rw[h2 (by simpa using h)]⟩
theorem fA1 {r:Nat} (h:∀E t xs,look s.ob r≠some (.row E t xs)):s.frz r=s:=by
 unfold St.frz;split
 ·rename_i h1;exact absurd h1 (h _ _ _)
 ·rfl
theorem hG1 (r:Nat):(s.frz r).ob.length≤s.ob.length∧((s.frz r).ob.length=s.ob.length→s.frz r=s ∧ ∀E t xs,look s.ob r≠some (.row E t xs)):=by
 cases h:look s.ob r with
 | none=>rw[fA1 (by rw[h];simp)];exact⟨rE2 _,fun _=>⟨rfl,by simp⟩⟩
 | some b=>
  cases b with
  | box T l=>rw[fA1 (by rw[h];simp)];exact⟨rE2 _,fun _=>⟨rfl,by simp⟩⟩
  | row E t xs=>
   obtain⟨h1,h2⟩:=aM1 r s.ob;have hl:(s.frz r).ob.length=(del s.ob r).length:=by unfold St.frz;rw[h];simp
   refine⟨by rw[hl];exact h1,fun e=>?_⟩;have:=h2 (by rw[←hl];exact e);have h3:=bI s.ob r r;rw[this,h]at h3;simp at h3
theorem jO :∀(l:List Lf) (s:St),(s.frzAll l).ob.length≤s.ob.length∧((s.frzAll l).ob.length=s.ob.length→s.frzAll l=s ∧ ∀r∈rowNames l,∀E t xs,look s.ob r≠some (.row E t xs))
 | [],s=>⟨rE2 _,fun _=>⟨rfl,by simp[rowNames]⟩⟩
 | c::l,s=>by
  have hr:∀r,((s.frz r).frzAll l).ob.length≤s.ob.length∧(((s.frz r).frzAll l).ob.length=s.ob.length→(s.frz r).frzAll l=s ∧ ∀r'∈r::rowNames l,∀E t xs,look s.ob r'≠some (.row E t xs)):=by
   intro r;obtain⟨h1,h2⟩:=hG1 (s:=s) r;obtain⟨h3,h4⟩:=jO l (s.frz r);refine⟨sG2 h3 h1,fun h=>?_⟩;have e1:(s.frz r).ob.length=s.ob.length:=Nat.le_antisymm h1 (h ▸ h3);obtain⟨h5,h6⟩:=h2 e1;obtain⟨h7,h8⟩:=h4 (by rw[h,e1]);rw[h5]at h7 h8 ⊢;refine⟨h7,fun r' hr'=>?_⟩;rcases pE2.1 hr' with rfl | hr'
   ·exact h6
   ·exact h8 r' hr'
  cases c <;> first | exact hr _ | exact jO l s
theorem pQ :∀{l:List Lf} {s:St},(∀r∈rowNames l,∀E t xs,look s.ob r≠some (.row E t xs))→s.frzAll l=s
 | [],_,_=>rfl
 | c::l,s,h=>by
  cases c <;> first
   | (simp only[St.frzAll];rw[fA1 (h _ (by simp[rowNames]))];exact pQ fun r hr=>h r (by simp[rowNames,hr]))
   | exact pQ (l:=l) h
theorem iX {l:List Lf} (h:rowNames l=[]):s.frzAll l=s:=pQ (by rw[h];simp)
theorem lG1 {l:List Lf} (h:s.frzAll l=s) (ht:t.ob=s.ob):t.frzAll l=t:=
 pQ (by rw[ht];exact((jO l s).2 (by rw[h])).2)
theorem jP {ob ob':List (Nat×Ob)} {e:TypeId} {ty:Ty} {r:Nat} (h:look ob' r=look ob r):iK ob' e ty r=iK ob e ty r:=by unfold iK;rw[h]
theorem yQ {ob ob':List (Nat×Ob)} {e:TypeId} {ty:Ty} {c:Lf} (h:∀n∈c.nms,look ob' n=look ob n):c.list ob' e ty=c.list ob e ty:=by
 cases c with
 | o r=>exact jP (h r (by simp[Lf.nms]))
 | oh r k=>exact congrArg (fun z=>Option.bind z fun xs=>some (xs.take k.toNat)) (jP (h r (by simp[Lf.nms])))
 | ot r k z=>exact congrArg (fun y=>if Nat.beq z ty.sz=true then Option.bind y fun xs=>some (xs.drop k.toNat)else none) (jP (h r (by simp[Lf.nms])))
 | v ty x=>rfl
 | _=>rfl
theorem iM1 {ob ob':List (Nat×Ob)} {c:Lf} (h:∀n∈c.nms,look ob' n=look ob n):c.len ob'=c.len ob:=by
 cases c with
 | o r=>simp only[Lf.len];rw[h r (by simp[Lf.nms])]
 | ot r j z=>simp only[Lf.len];rw[h r (by simp[Lf.nms])]
 | v ty x=>cases ty <;> rfl
 | _=>rfl
theorem xJ1 {ob ob':List (Nat×Ob)} {c:Lf} (h:∀n∈c.nms,look ob' n=look ob n):c.frz ob'=c.frz ob:=by
 cases c with
 | o r=>simp only[Lf.frz];rw[h r (by simp[Lf.nms])]
 | oh r _=>simp only[Lf.frz];rw[h r (by simp[Lf.nms])]
 | ot r _ _=>simp only[Lf.frz];rw[h r (by simp[Lf.nms])]
 | _=>rfl
theorem eS {y:Option Operand} (h:∀z∈y,t.opnd z=s.opnd z):mL t y=mL s y:=by
 cases y with
 | none=>rfl
 | some z=>simp only[mL];rw[h z rfl]
theorem cJ :∀{l:List Operand},(∀y∈l,t.opnd y=s.opnd y)→t.cellsOf l=s.cellsOf l
 | [],_=>rfl
 | y::l,h=>by simp only[St.cellsOf];rw[h y nE2,cJ fun z hz=>h z (mE2 _ hz)]
theorem qS {fs:Tys}:∀{ps:List (Nat×Operand)} {l:List Lf},(∀p∈ps,t.opnd p.2=s.opnd p.2)→tS fs t l ps=tS fs s l ps
 | [],_,_=>rfl
 | (i,y)::r,l,h=>by
  have ih:=fun l=>qS (fs:=fs) (ps:=r) (l:=l) fun p hp=>h p (mE2 _ hp)
  simp only[tS,ih];rw[h (i,y) nE2]
theorem wN {ty:Ty}:∀{ps:List (Nat×Operand)} {n:Nat},(∀p∈ps,t.opnd p.2=s.opnd p.2)→mQ ty t n ps=mQ ty s n ps
 | [],_,_=>rfl
 | (i,y)::r,n,h=>by
  have ih:=fun n=>wN (ty:=ty) (ps:=r) (n:=n) fun p hp=>h p (mE2 _ hp)
  simp only[mQ,ih];rw[h (i,y) nE2]
theorem tN :∀{ps:List (Nat×Operand)},(∀p∈ps,t.opnd p.2=s.opnd p.2)→pH t ps=pH s ps
 | [],_=>rfl
 | (i,y)::r,h=>by simp only[pH];rw[h (i,y) nE2,tN fun p hp=>h p (mE2 _ hp)]
end
section
variable {E : Env} {s t s1 : St} {o : Oper}
theorem qG {y:Operand} {z:Slot} (hy:y∈o.op.operands.toList) (hz:s.opnd y=some z) {n:Nat} (hn:n∈z.nms):n∈s.opNms o:=by unfold St.opNms;rw[aH2];exact⟨y,hy,by rw[hz];exact hn⟩
def zK (E:Env) (o:Oper) (s t:St) (out:Out E):Prop:=
 (∃g x,out = .go g x s.ob∧step E t o=some (t,.go g x t.ob))∨(∃c x y,out = .br c x y∧step E t o=some (t,.br c x y))
variable {out : Out E}
theorem xH1 {y:Operand} (ho:o.op = .move y∨o.op = .assign y) (ha:Agr o s t) (h:step E s o=some (s,out)):zK E o s t out:=by
 have h1:t.opnd y=s.opnd y:=ha.op y (by rcases ho with ho | ho <;> simp[ho,Op.operands]);rcases ho with ho | ho
 all_goals
  simp only[step,ho]at h;split at h
  ·rename_i z hz;cases h;exact .inl ⟨_,_,rfl,by simp only[step,ho,h1,hz]⟩
  ·cases h
theorem zU1 {c y z:Operand} (ho:o.op = .pick c y z) (ha:Agr o s t) (h:step E s o=some (s,out)):zK E o s t out:=by
 have h1:t.opnd c=s.opnd c:=ha.op c (by simp[ho,Op.operands]);have h2:t.opnd y=s.opnd y:=ha.op y (by simp[ho,Op.operands]);have h3:t.opnd z=s.opnd z:=ha.op z (by simp[ho,Op.operands]);simp only[step,ho]at h;split at h
 ·rename_i c x1 x2 e1 e2 e3;cases h;exact .inr ⟨_,_,_,rfl,by simp only[step,ho,h1,h2,h3,e1,e2,e3]⟩
 ·cases h
theorem vB2 {op:BinOp} {T U:TypeId} {y z:Operand} (ho:o.op = .binOp op T y z U) (ha:Agr o s t) (h:step E s o=some (s,out)):zK E o s t out:=by
 have h2:t.opnd y=s.opnd y:=ha.op y (by simp[ho,Op.operands]);have h3:t.opnd z=s.opnd z:=ha.op z (by simp[ho,Op.operands]);simp only[step,ho]at h;split at h
 ·rename_i c1 c2 e1 e2;split at h
  ·rename_i hb;split at h
   ·rename_i g c hc;cases h;exact .inl ⟨_,_,rfl,by simp only[step,ho,h2,h3,e1,e2,hc,if_pos hb]⟩
   ·cases h
  ·cases h
 ·rename_i l m e1 e2;split at h
  ·rename_i fs hT;split at h
   ·rename_i hq;split at h
    ·rename_i xv yv hp1 hp2;split at h
     ·cases h;exact .inl ⟨_,_,rfl,by simp only[step,ho,h2,h3,e1,e2,hT,if_pos hq,hp1,hp2]⟩
     ·cases h;exact .inl ⟨_,_,rfl,by simp only[step,ho,h2,h3,e1,e2,hT,if_pos hq,hp1,hp2]⟩
     ·cases h
    ·cases h
   ·cases h
  ·cases h
 ·cases h
theorem r_un {op:UnOp} {T:TypeId} {y:Operand} (ho:o.op = .unOp op T y) (ha:Agr o s t) (h:step E s o=some (s,out)):zK E o s t out:=by
 have h2:t.opnd y=s.opnd y:=ha.op y (by simp[ho,Op.operands]);simp only[step,ho]at h;split at h
 ·rename_i k n e1;cases h;exact .inl ⟨_,_,rfl,by simp only[step,ho,h2,e1]⟩
 ·rename_i b e1;cases h;exact .inl ⟨_,_,rfl,by simp only[step,ho,h2,e1]⟩
 ·cases h
theorem fQ1 {y:Operand} {i:Nat} (ho:o.op = .extract y i) (ha:Agr o s t) (h:step E s o=some (s,out)):zK E o s t out:=by
 have h2:t.opnd y=s.opnd y:=ha.op y (by simp[ho,Op.operands]);simp only[step,ho]at h;split at h
 ·rename_i l e1;split at h
  ·rename_i c e2;cases h;exact .inl ⟨_,_,rfl,by simp only[step,ho,h2,e1,e2]⟩
  ·cases h
 ·cases h
theorem jW1 {T:TypeId} {y:Operand} {f:Nat} (ho:o.op = .field T y f) (ha:Agr o s t) (h:step E s o=some (s,out)):zK E o s t out:=by
 have h2:t.opnd y=s.opnd y:=ha.op y (by simp[ho,Op.operands]);simp only[step,ho]at h;split at h
 ·rename_i l fs e1 e2;split at h
  ·rename_i ty e3;split at h
   ·rename_i z e4;cases h;exact .inl ⟨_,_,rfl,by simp only[step,ho,h2,e1,e2,e3,e4]⟩
   ·cases h
  ·cases h
 ·cases h
theorem eZ1 {T:TypeId} {ps:Array (Nat×Operand)} (ho:o.op = .build T ps) (ha:Agr o s t) (h:step E s o=some (s,out)):zK E o s t out:=by
 have h2:∀p∈ps.toList,t.opnd p.2=s.opnd p.2:=fun p hp=>ha.op p.2 (by
  simp only[ho,Op.operands,List.toList_toArray]
  exact kF2.2 ⟨p,hp,rfl⟩)
 simp only[step,ho]at h;split at h
 ·rename_i fs e1;split at h
  ·rename_i l e2;cases h;exact .inl ⟨_,_,rfl,by simp only[step,ho,qS h2,e1,e2]⟩
  ·cases h
 ·cases h
theorem kK1 {y:Operand} (ho:o.op = .nilCheck y) (ha:Agr o s t) (h:step E s o=some (s,out)):zK E o s t out:=by
 have h2:t.opnd y=s.opnd y:=ha.op y (by simp[ho,Op.operands]);simp only[step,ho]at h;split at h
 ·rename_i b off e1;cases h;exact .inl ⟨_,_,rfl,by simp only[step,ho,h2,e1]⟩
 ·rename_i f cs e1;split at h
  ·rename_i hf;cases h;exact .inl ⟨_,_,rfl,by simp only[step,ho,h2,e1,if_pos hf]⟩
  ·cases h
 ·cases h
theorem dU {T:TypeId} {y:Operand} (ho:o.op = .makeInterface T y) (ha:Agr o s t) (h:step E s o=some (s,out)):zK E o s t out:=by
 have h2:t.opnd y=s.opnd y:=ha.op y (by simp[ho,Op.operands]);simp only[step,ho]at h;split at h
 ·rename_i b e1;split at h
  ·rename_i hT;cases h;exact .inl ⟨_,_,rfl,by simp only[step,ho,h2,e1,if_pos hT]⟩
  ·cases h
 ·rename_i z hz e1;split at h
  ·rename_i l ty e2 e3;split at h
   ·rename_i e4;split at h
    ·rename_i v r e5;split at h
     ·rename_i e6;cases h;refine .inl ⟨_,_,rfl,?_⟩;simp only[step,ho,h2,e1,e2,e3,if_pos e4,e5,if_pos e6]
     ·cases h
    ·cases h
   ·cases h
  ·cases h
 ·cases h
theorem iE1 {T U:TypeId} {y:Operand} {b:Bool} (ho:o.op = .typeAssert y T U b) (ha:Agr o s t) (h:step E s o=some (s,out)):zK E o s t out:=by
 have h2:t.opnd y=s.opnd y:=ha.op y (by simp[ho,Op.operands])
 cases b with
 | false=>simp only[step,ho]at h;cases h
 | true=>
  simp only[step,ho]at h;split at h
  ·rename_i V ty v e1;split at h
   ·rename_i e2;cases h;exact .inl ⟨_,_,rfl,by simp only[step,ho,h2,e1,if_pos e2]⟩
   ·cases h
  ·cases h
theorem uX1 {T:TypeId} {y z:Operand} (ho:o.op = .index T y z) (ha:Agr o s t) (h:step E s o=some (s,out)):zK E o s t out:=by
 have h2:t.opnd y=s.opnd y:=ha.op y (by simp[ho,Op.operands]);have h3:t.opnd z=s.opnd z:=ha.op z (by simp[ho,Op.operands]);simp only[step,ho]at h;split at h
 ·rename_i b ci e1 e2;split at h
  ·rename_i k n e3 e4;cases h;exact .inl ⟨_,_,rfl,by simp only[step,ho,h2,h3,e1,e2,e3,e4]⟩
  ·cases h
 ·cases h
theorem bK1 {f:Fn} {l m:Array Operand} (ho:o.op = .makeFunc f l m) (ha:Agr o s t) (h:step E s o=some (s,out)):zK E o s t out:=by
 cases f with
 | func f=>
  simp only[step,ho]at h;split at h
  ·rename_i he;have h2:t.cellsOf m.toList=s.cellsOf m.toList:=cJ fun y hy=>ha.op y (by simp only[ho,Op.operands,Array.toList_append];exact tE2 _ hy)
   split at h
   ·rename_i ls e1;split at h
    ·rename_i bs e2;split at h
     ·rename_i hf;cases h;exact .inl ⟨_,_,rfl,by simp only[step,ho,h2,e1,e2,if_pos he,if_pos hf]⟩
     ·cases h
    ·cases h
   ·cases h
  ·cases h
 | _=>simp only[step,ho]at h;cases h
theorem kC2 {c:Call} (ho:o.op = .call c) (hb:c.callee = .builtin .len) (ha:Agr o s t) (hl:∀n∈s.opNms o,look t.ob n=look s.ob n) (h:step E s o=some (s,out)):zK E o s t out:=by
 have hop:o.op.operands=c.args:=by simp[ho,Op.operands,Call.operands,hb]
 simp only[step,ho,hb]at h;split at h
 ·rename_i y e1;have hy:y∈o.op.operands.toList:=by rw[hop,e1];simp
  have h2:t.opnd y=s.opnd y:=ha.op y hy;split at h
  ·rename_i z e2;have hc:z.len t.ob=z.len s.ob:=iM1 fun n hn=>hl n (qG hy e2 hn)
   split at h
   ·rename_i e3;split at h
    ·rename_i n e4;cases h;exact .inl ⟨_,_,rfl,by simp only[step,ho,hb,h2,hc,e1,e2,e4,if_pos e3]⟩
    ·cases h
   ·cases h
  ·cases h
 ·cases h
theorem lH1 {c:Call} (ho:o.op = .call c) (hb:c.callee = .builtin .min∨c.callee = .builtin .max) (ha:Agr o s t) (h:step E s o=some (s,out)):zK E o s t out:=by
 rcases hb with hb | hb
 all_goals
  have hop:o.op.operands=c.args:=by simp[ho,Op.operands,Call.operands,hb]
  have h2:t.cellsOf c.args.toList=s.cellsOf c.args.toList:=cJ fun y hy=>ha.op y (by rw[hop];exact hy)
  simp only[step,ho,hb]at h;split at h
  ·rename_i l e1;split at h
   ·rename_i k n e2;cases h;exact .inl ⟨_,_,rfl,by simp only[step,ho,hb,h2,e1,e2]⟩
   ·cases h
  ·cases h
theorem vE1 {T:TypeId} {y:Operand} {f:Nat} (ho:o.op = .fieldAddr T y f) (ha:Agr o s t) (hl:∀n∈s.opNms o,look t.ob n=look s.ob n) (h:step E s o=some (s,out)):zK E o s t out:=by
 have hy:y∈o.op.operands.toList:=by simp[ho,Op.operands]
 have h2:t.opnd y=s.opnd y:=ha.op y hy;simp only[step,ho]at h;split at h
 ·rename_i fs e1;split at h
  ·rename_i ty e2;split at h
   ·rename_i e3;split at h
    ·rename_i b off e4;cases h;exact .inl ⟨_,_,rfl,by simp only[step,ho,h2,e1,e2,e4,if_pos e3]⟩
    ·rename_i l e4;cases h;exact .inl ⟨_,_,rfl,by simp only[step,ho,h2,e1,e2,e4,if_pos e3]⟩
    ·rename_i r i off e4;have h5:=hl r (qG hy e4 (by simp[Slot.nms]));split at h
     ·rename_i e5;cases h;exact .inl ⟨_,_,rfl,by simp only[step,ho,h2,e1,e2,e4,h5,e5,if_pos e3]⟩
     ·cases h
    ·cases h
   ·cases h
  ·cases h
 ·cases h
theorem kZ1 {T:TypeId} {y:Operand} (ho:o.op = .load T y) (ha:Agr o s t) (hl:∀n∈s.opNms o,look t.ob n=look s.ob n) (h:step E s o=some (s,out)):zK E o s t out:=by
 have hy:y∈o.op.operands.toList:=by simp[ho,Op.operands]
 have h2:t.opnd y=s.opnd y:=ha.op y hy;simp only[step,ho]at h;split at h
 ·cases h
 ·rename_i ag n e1;split at h
  ·rename_i b off e4;have h5:=hl b (qG hy e4 (by simp[Slot.nms,Lf.nms]));split at h
   ·rename_i U c e5;split at h
    ·rename_i z e6;cases h;exact .inl ⟨_,_,rfl,by simp only[step,ho,h2,e1,e4,h5,e5,e6]⟩
    ·cases h
   ·cases h
  ·rename_i l e4;split at h
   ·rename_i z e6;cases h;exact .inl ⟨_,_,rfl,by simp only[step,ho,h2,e1,e4,e6]⟩
   ·cases h
  ·rename_i r i off e4;have h5:=hl r (qG hy e4 (by simp[Slot.nms]));split at h
   ·rename_i e ty xs e5;split at h
    ·rename_i z e6;cases h;exact .inl ⟨_,_,rfl,by simp only[step,ho,h2,e1,e4,h5,e5,e6]⟩
    ·cases h
   ·cases h
  ·cases h
theorem pG1 {T:TypeId} {y z:Operand} (ho:o.op = .indexAddr T y z) (ha:Agr o s t) (hl:∀n∈s.opNms o,look t.ob n=look s.ob n) (h:step E s o=some (s,out)):zK E o s t out:=by
 have hy:y∈o.op.operands.toList:=by simp[ho,Op.operands]
 have h2:t.opnd y=s.opnd y:=ha.op y hy;have h3:t.opnd z=s.opnd z:=ha.op z (by simp[ho,Op.operands]);simp only[step,ho]at h;split at h
 ·rename_i e ty c ci e1 e2 e3;have hc:c.list t.ob e ty=c.list s.ob e ty:=yQ fun n hn=>hl n (qG hy e2 hn)
  split at h
  ·rename_i xs k n e4 e5
   cases c with
   | o r=>cases h;exact .inl ⟨_,_,rfl,by simp only[step,ho,h2,h3,e1,e2,e3,e5,hc,e4]⟩
   | ot r j z'=>cases h;exact .inl ⟨_,_,rfl,by simp only[step,ho,h2,h3,e1,e2,e3,e5,hc,e4]⟩
   | v ty x=>cases h;exact .inl ⟨_,_,rfl,by simp only[step,ho,h2,h3,e1,e2,e3,e5,hc,e4]⟩
   | _=>cases h
  ·cases h
 ·cases h
theorem bR1 {a b:TypeId} {y:Operand} (ho:o.op = .convert a b y) (ha:Agr o s t) (hl:∀n∈s.opNms o,look t.ob n=look s.ob n) (h:step E s o=some (s,out)):zK E o s t out:=by
 have hy:y∈o.op.operands.toList:=by simp[ho,Op.operands]
 have h2:t.opnd y=s.opnd y:=ha.op y hy;simp only[step,ho]at h;split at h
 ·rename_i k n ty k' e1 e2 e3;cases h;exact .inl ⟨_,_,rfl,by simp only[step,ho,h2,e1,e2,e3]⟩
 ·rename_i c e e1 e2 e3;have hc:c.list t.ob e (.int .u8)=c.list s.ob e (.int .u8):=yQ fun n hn=>hl n (qG hy e1 hn)
  split at h
  ·rename_i xs e4;cases h;exact .inl ⟨_,_,rfl,by simp only[step,ho,h2,hc,e1,e2,e3,e4]⟩
  ·cases h
 ·rename_i z ty e e1 e2 e3;cases h;exact .inl ⟨_,_,rfl,by simp only[step,ho,h2,e1,e2,e3]⟩
 ·rename_i r e1' e2' e1 e2 e3;split at h
  ·split at h
   ·rename_i e ty xs e4;have hf:s.frz r=s:=congrArg Prod.fst (oF2 h);exact absurd e4 (((hG1 r).2 (by rw[hf])).2 _ _ _)
   ·cases h
  ·cases h
 ·cases h
theorem hW1 {T:TypeId} {y:Operand} {lo hi mx:Option Operand} (ho:o.op = .slice T y lo hi mx) (ha:Agr o s t) (hl:∀n∈s.opNms o,look t.ob n=look s.ob n) (h:step E s o=some (s,out)):zK E o s t out:=by
 cases mx with
 | some m=>simp only[step,ho]at h;cases h
 | none=>
  have hy:y∈o.op.operands.toList:=by simp[ho,Op.operands]
  have h2:t.opnd y=s.opnd y:=ha.op y hy;have h3:mL t lo=mL s lo:=eS fun z hz=>ha.op z (by cases hz;simp[ho,Op.operands])
  have h4:mL t hi=mL s hi:=eS fun z hz=>ha.op z (by cases hz;simp[ho,Op.operands])
  simp only[step,ho]at h;split at h
  ·rename_i z l h' e1 e2 e3;split at h
   ·rename_i e4;cases h;exact .inl ⟨_,_,rfl,by simp only[step,ho,h2,h3,h4,e1,e2,e3,if_pos e4]⟩
   ·cases h
  ·rename_i c l h' hx e1 e2 e3;split at h
   ·rename_i e ty e4;have hc:c.list t.ob e ty=c.list s.ob e ty:=yQ fun n hn=>hl n (qG hy e1 hn)
    split at h
    ·rename_i xs e5;rcases hp:lT e ty xs l h' with⟨g,y'⟩;rw[hp]at h
     cases c with
     | o r=>
      cases l <;> cases h'
      case none.some=>cases h;exact .inl ⟨_,_,rfl,by simp only[step,ho,h2,h3,h4,e1,e2,e3,e4,hc,e5,hp]⟩
      case some.none=>cases h;exact .inl ⟨_,_,rfl,by simp only[step,ho,h2,h3,h4,e1,e2,e3,e4,hc,e5,hp]⟩
      all_goals
       have hf:s.frz r=s:=congrArg Prod.fst (oF2 h);exact absurd (yH e5) (((hG1 r).2 (by rw[hf])).2 _ _ _)
     | v ty' x=>
      cases ty' with
      | str=>exact absurd rfl (hx x)
      | _=>cases h;exact .inl ⟨_,_,rfl,by simp only[step,ho,h2,h3,h4,e1,e2,e3,e4,hc,e5,hp]⟩
     | nl=>cases h;exact .inl ⟨_,_,rfl,by simp only[step,ho,h2,h3,h4,e1,e2,e3,e4,hc,e5,hp]⟩
     | _=>cases h
    ·cases h
   ·cases h
  ·cases h
theorem mC2 (hr:E.litO o=true) (ha:Agr o s t) (h:step E s o=some (s,out)):zK E o s t out:=by
 cases ho:o.op with
 | buildSlice T m ps=>
  have h2:∀p∈ps.toList,t.opnd p.2=s.opnd p.2:=fun p hp=>ha.op p.2 (by
   simp only[ho,Op.operands,List.toList_toArray]
   exact kF2.2 ⟨p,hp,rfl⟩)
  simp only[step,ho,if_pos hr]at h;split at h
  ·rename_i e ty e1;split at h
   ·rename_i xs e2;split at h
    ·rename_i e3;cases h;exact .inl ⟨_,_,rfl,by simp only[step,ho,if_pos hr,e1,wN h2,e2,if_pos e3]⟩
    ·cases h
   ·cases h
  ·cases h
 | _=>simp only[Env.litO,ho]at hr;cases hr
theorem xU1 (hr':(rOp o.op||E.litO o)=true) (ha:Agr o s t) (hl:∀n∈s.opNms o,look t.ob n=look s.ob n) (h:step E s o=some (s,out)):zK E o s t out:=by
 rcases(kG2 _ _).mp hr' with hr | hr
 case inr=>exact mC2 hr ha h
 cases ho:o.op with
 | move y=>exact xH1 (.inl ho) ha h
 | assign y=>exact xH1 (.inr ho) ha h
 | pick c y z=>exact zU1 ho ha h
 | binOp op T y z U=>exact vB2 ho ha h
 | unOp op T y=>exact r_un ho ha h
 | convert a b y=>exact bR1 ho ha hl h
 | extract y i=>exact fQ1 ho ha h
 | field T y f=>exact jW1 ho ha h
 | build T ps=>exact eZ1 ho ha h
 | fieldAddr T y f=>exact vE1 ho ha hl h
 | load T y=>exact kZ1 ho ha hl h
 | nilCheck y=>exact kK1 ho ha h
 | indexAddr T y z=>exact pG1 ho ha hl h
 | index T y z=>exact uX1 ho ha h
 | slice T y lo hi mx=>exact hW1 ho ha hl h
 | makeFunc f l m=>exact bK1 ho ha h
 | makeInterface T y=>exact dU ho ha h
 | typeAssert y T U b=>exact iE1 ho ha h
 | call c=>
  rw[ho]at hr
  cases hb:c.callee with
  | builtin b=>
   simp only[rOp,hb]at hr;cases b <;> first
    | (cases hr;done)
    | exact kC2 ho hb ha hl h
    | exact lH1 ho (.inl hb) ha h
    | exact lH1 ho (.inr hb) ha h
  | _=>simp only[rOp,hb]at hr;cases hr
 | _=>rw[ho]at hr;cases hr
end
section
variable {E : Env} {s t s1 : St} {o : Oper} {out : Out E}
def vO (E:Env) (o:Oper) (s t:St) (out:Out E):Prop:=
 ∃g x ob,out = .go g x ob∧step E t o=some (t,.go g x ob) ∧ ∀n,n∉s.wrNms o→n≠s.id o.dst→look ob n=look s.ob n
theorem bY1 {T:TypeId} (ho:o.op = .alloc T) (ha:Agr o s t) (hob:t.ob=s.ob) (hf:t.fresh (s.id o.dst)=s.fresh (s.id o.dst)) (h:step E s o=some (s,out)):vO E o s t out:=by
 have hid:=ha.id;simp only[step,ho]at h;split at h
 ·rename_i ty e1;split at h
  ·rename_i e2;cases h;exact⟨_,_,_,rfl,by simp only[step,ho,e1,hid,hf,hob,if_pos e2],fun n _ hn=>by rw[zF,if_neg (Ne.symm hn)]⟩
  ·cases h
 ·rename_i e1;split at h
  ·rename_i e2;cases h;exact⟨_,_,_,rfl,by simp only[step,ho,e1,hid,hf,hob,if_pos e2],fun n _ hn=>by rw[zF,if_neg (Ne.symm hn)]⟩
  ·cases h
theorem xC2 {T:TypeId} {y:Operand} (ho:o.op = .box T y) (ha:Agr o s t) (hob:t.ob=s.ob) (hf:t.fresh (s.id o.dst)=s.fresh (s.id o.dst)) (h:step E s o=some (s,out)):vO E o s t out:=by
 have hid:=ha.id;have h2:t.opnd y=s.opnd y:=ha.op y (by simp[ho,Op.operands]);simp only[step,ho]at h;split at h
 ·rename_i z e1;split at h
  ·rename_i c e2;split at h
   ·rename_i ag n e3;split at h
    ·rename_i e4;cases h;exact⟨_,_,_,rfl,by simp only[step,ho,h2,e1,e2,e3,hid,hf,hob,if_pos e4],fun n _ hn=>by rw[zF,if_neg (Ne.symm hn)]⟩
    ·cases h
   ·cases h
  ·cases h
 ·cases h
theorem rX1 {T:TypeId} {y z:Operand} (ho:o.op = .store T y z) (ha:Agr o s t) (hob:t.ob=s.ob) (h:step E s o=some (s,out)):vO E o s t out:=by
 have hy:y∈o.op.operands.toList:=by simp[ho,Op.operands]
 have h2:t.opnd y=s.opnd y:=ha.op y hy;have h3:t.opnd z=s.opnd z:=ha.op z (by simp[ho,Op.operands]);have hwn:s.wrNms o=s.opNms o:=by simp only[St.wrNms,ho]
 simp only[vO,hwn];simp only[step,ho]at h;split at h
 ·cases h
 ·rename_i ag n e1;split at h
  ·rename_i b off z' e2 e3;split at h
   ·rename_i U c l e4 e5;split at h
    ·rename_i e6;split at h
     ·rename_i c' e7;cases h;refine⟨_,_,_,rfl,by simp only[step,ho,h2,h3,e1,e2,e3,e4,e5,e7,hob,if_pos e6],fun n hn _=>?_⟩;rw[zF,if_neg];rintro rfl;exact hn (qG hy e2 (by simp[Slot.nms,Lf.nms]))
     ·cases h
    ·cases h
   ·cases h
  ·rename_i r i off z' e2 e3;split at h
   ·rename_i e ty xs l e4 e5;split at h
    ·rename_i e6;split at h
     ·rename_i c' e7;split at h
      ·rename_i w r' e8;cases h;refine⟨_,_,_,rfl,by simp only[step,ho,h2,h3,e1,e2,e3,e4,e5,e7,e8,hob,if_pos e6],fun n hn _=>?_⟩;rw[zF,if_neg];rintro rfl;exact hn (qG hy e2 (by simp[Slot.nms]))
      ·cases h
     ·cases h
    ·cases h
   ·cases h
  ·cases h
theorem oA2 {T:TypeId} {y z:Operand} (ho:o.op = .makeSlice T y z) (ha:Agr o s t) (hob:t.ob=s.ob) (hf:t.fresh (s.id o.dst)=s.fresh (s.id o.dst)) (h:step E s o=some (s,out)):vO E o s t out:=by
 have hid:=ha.id;have h2:t.opnd y=s.opnd y:=ha.op y (by simp[ho,Op.operands]);have h3:t.opnd z=s.opnd z:=ha.op z (by simp[ho,Op.operands]);simp only[step,ho]at h;split at h
 ·rename_i e ty n c e1 e2 e3;split at h
  ·rename_i e4;cases h;exact⟨_,_,_,rfl,by simp only[step,ho,h2,h3,e1,e2,e3,hid,hf,hob,if_pos e4],fun n _ hn=>by rw[zF,if_neg (Ne.symm hn)]⟩
  ·cases h
 ·cases h
theorem jZ1 {T:TypeId} {m:Nat} {ps:Array (Nat×Operand)} (hnl:E.litO o=false) (ho:o.op = .buildSlice T m ps) (ha:Agr o s t) (hob:t.ob=s.ob) (hf:t.fresh (s.id o.dst)=s.fresh (s.id o.dst)) (h:step E s o=some (s,out)):vO E o s t out:=by
 have hid:=ha.id
 have h2:∀p∈ps.toList,t.opnd p.2=s.opnd p.2:=fun p hp=>ha.op p.2 (by
  simp only[ho,Op.operands,List.toList_toArray]
  exact kF2.2 ⟨p,hp,rfl⟩)
 have hnl':¬E.litO o=true:=by rw[hnl];decide
 simp only[step,ho,if_neg hnl']at h;split at h
 ·rename_i e ty e1;split at h
  ·rename_i xs e2;split at h
   ·rename_i e3;have hfz:s.frzAll (pH s ps.toList)=s:=congrArg Prod.fst (oF2 h);rw[hfz]at h e2 e3;have ht:t.frzAll (pH t ps.toList)=t:=by rw[tN h2];exact lG1 hfz hob
    cases h;exact⟨_,_,_,rfl,by simp only[step,ho,if_neg hnl',e1,ht,wN h2,e2,hid,hf,hob,if_pos e3],fun n _ hn=>by rw[zF,if_neg (Ne.symm hn)]⟩
   ·cases h
  ·cases h
 ·cases h
theorem dT1 {c:Call} (ho:o.op = .call c) (hb:c.callee = .builtin .append) (ha:Agr o s t) (hob:t.ob=s.ob) (hf:t.fresh (s.id o.dst)=s.fresh (s.id o.dst)) (h:step E s o=some (s,out)):vO E o s t out:=by
 have hid:=ha.id;have hop:o.op.operands=c.args:=by simp[ho,Op.operands,Call.operands,hb]
 simp only[step,ho,hb,appd]at h;split at h
 ·rename_i y z T U e1 e2;have hy:y∈o.op.operands.toList:=by rw[hop,e1];simp
  have h2:t.opnd y=s.opnd y:=ha.op y hy;have h3:t.opnd z=s.opnd z:=ha.op z (by rw[hop,e1];simp);split at h
  ·rename_i e ty a b e3 e4 e5;split at h
   ·rename_i xs e6;split at h
    ·rename_i ys e7
     cases a with
     | nl=>
      dsimp only at h;split at h
      ·rename_i e8;cases h;exact⟨_,_,_,rfl,by simp only[step,ho,hb,appd,h2,h3,e1,e2,e3,e4,e5,e6,e7,hid,hf,hob,if_pos e8],fun n _ hn=>by rw[zF,if_neg (Ne.symm hn)]⟩
      ·cases h
     | o r=>
      dsimp only at h;split at h
      ·rename_i e8;cases h;refine⟨_,_,_,rfl,by simp only[step,ho,hb,appd,h2,h3,e1,e2,e3,e4,e5,e6,e7,hid,hf,hob,if_pos e8],fun n hn hn2=>?_⟩;rw[zF,if_neg (Ne.symm hn2),bI,if_neg];rintro rfl;exact hn (by simp[St.wrNms,ho,hb,e1,e4,Slot.nms,Lf.nms])
      ·cases h
     | oh r k=>
      dsimp only at h;split at h
      ·rename_i e8;cases h;refine⟨_,_,_,rfl,by simp only[step,ho,hb,appd,h2,h3,e1,e2,e3,e4,e5,e6,e7,hid,hf,hob,if_pos e8],fun n hn hn2=>?_⟩;rw[zF,if_neg (Ne.symm hn2),bI,if_neg];rintro rfl;exact hn (by simp[St.wrNms,ho,hb,e1,e4,Slot.nms,Lf.nms])
      ·cases h
     | _=>cases h
    ·cases h
   ·cases h
  ·cases h
 ·cases h
theorem tW1 {c:Call} (ho:o.op = .call c) (hb:c.callee = .builtin .clear) (ha:Agr o s t) (hob:t.ob=s.ob) (h:step E s o=some (s,out)):vO E o s t out:=by
 have hop:o.op.operands=c.args:=by simp[ho,Op.operands,Call.operands,hb]
 have hwn:s.wrNms o=s.opNms o:=by simp only[St.wrNms,ho,hb]
 simp only[vO,hwn];simp only[step,ho,hb]at h;split at h
 ·rename_i y T e1 e2;have hy:y∈o.op.operands.toList:=by rw[hop,e1];simp
  have h2:t.opnd y=s.opnd y:=ha.op y hy;split at h
  ·rename_i e ty r l z e3 e4;split at h
   ·rename_i e5;split at h
    ·rename_i xs e6;cases h;refine⟨_,_,_,rfl,by simp only[step,ho,hb,h2,e1,e2,e3,e4,e6,hob,if_pos e5],fun n hn _=>?_⟩;rw[zF,if_neg];rintro rfl;exact hn (qG hy e4 (by simp[Slot.nms,Lf.nms]))
    ·cases h
   ·cases h
  ·cases h
 ·cases h
theorem xZ1 {g:List Bool} {x:Slot} {ob:List (Nat×Ob)} (hr':(rOp o.op||E.litO o)=false) (ha:Agr o s t) (hob:t.ob=s.ob) (hf:t.fresh (s.id o.dst)=s.fresh (s.id o.dst)) (hinl:E.inl=[]) (h:step E s o=some (s,.go g x ob)):vO E o s t (.go g x ob:Out E):=by
 obtain⟨hr,hnl⟩:=wH2.1 hr'
 cases ho:o.op with
 | alloc T=>exact bY1 ho ha hob hf h
 | box T y=>exact xC2 ho ha hob hf h
 | store T y z=>exact rX1 ho ha hob h
 | makeSlice T y z=>exact oA2 ho ha hob hf h
 | buildSlice T m ps=>exact jZ1 hnl ho ha hob hf h
 | call c=>
  cases hb:c.callee with
  | builtin b=>
   rw[ho]at hr;simp only[rOp,hb]at hr;cases b <;> first
    | (cases hr;done)
    | exact dT1 ho hb ha hob hf h
    | exact tW1 ho hb ha hob h
    | (simp only[step,ho,hb]at h;cases h;done)
  | value y=>
   exfalso
   cases y with
   | func f=>
    simp only[step,ho,hb]at h;obtain⟨_,_,_,_,e⟩:=pK hinl h;rcases e with e | e <;> cases e
   | global g=>simp only[step,ho,hb,St.opnd]at h;cases h
   | tmp i=>
    simp only[step,ho,hb]at h;split at h
    ·split at h
     ·obtain⟨_,_,_,_,e⟩:=pK hinl h;rcases e with e | e <;> cases e
     ·cases h
    ·cases h
   | const v=>
    simp only[step,ho,hb]at h;split at h
    ·split at h
     ·obtain⟨_,_,_,_,e⟩:=pK hinl h;rcases e with e | e <;> cases e
     ·cases h
    ·cases h
  | invoke r m=>simp only[step,ho,hb]at h;cases h
 | _=>rw[ho]at hr;first | (cases hr;done) | (simp only[step,ho]at h;cases h;done)
end
section
variable {E : Env} {s t s1 s2 : St} {o : Oper} {out : Out E} {D : FnD}
mutual
theorem fR1 :∀{s:Sh} {x:s.T.D} {ns:List Nat} {c:List Lf} {ob:List (Nat×Ob)} {rest:List Nat},s.mk ns x=some (c,ob,rest)→ns=ob.map (·.1)++rest∧ob.length=s.cnt
 | .val t,x,ns,c,ob,rest,h=>by simp only[Sh.mk]at h;cases h;exact⟨rfl,rfl⟩
 | .own e t,x,[],c,ob,rest,h=>by simp[Sh.mk]at h
 | .own e t,x,r::m,c,ob,rest,h=>by simp only[Sh.mk]at h;cases h;exact⟨rfl,rfl⟩
 | .mv e t,x,[],c,ob,rest,h=>by simp[Sh.mk]at h
 | .mv e t,x,r::m,c,ob,rest,h=>by simp only[Sh.mk]at h;cases h;exact⟨rfl,rfl⟩
 | .box T sh,x,[],c,ob,rest,h=>by simp[Sh.mk]at h
 | .box T sh,x,b::m,c,ob,rest,h=>by
  simp only[Sh.mk]at h;split at h
  ·rename_i c1 ob1 m1 h1;cases h;obtain⟨h2,h3⟩:=lQ h1;exact⟨by simp[h2],by simp[h3,Sh.cnt]⟩
  ·cases h
 | .fn f sh,x,ns,c,ob,rest,h=>by
  simp only[Sh.mk]at h;split at h
  ·rename_i c1 ob1 m1 h1;split at h1
   ·cases h;exact lQ (s:=sh) h1
   ·cases h1
  ·cases h
 | .rcd sh,x,ns,c,ob,rest,h=>by
  have h0:(if sh.flat=true then sh.mk ns x else none)=some (c,ob,rest):=h;by_cases hf:sh.flat=true
  ·rw[if_pos hf]at h0;exact lQ (s:=sh) h0
  ·rw[if_neg hf]at h0;cases h0
theorem lQ :∀{s:Shs} {x:s.T.D} {ns:List Nat} {c:List Lf} {ob:List (Nat×Ob)} {rest:List Nat},s.mk ns x=some (c,ob,rest)→ns=ob.map (·.1)++rest∧ob.length=s.cnt
 | .nil,x,ns,c,ob,rest,h=>by simp only[Shs.mk]at h;cases h;exact⟨rfl,rfl⟩
 | .cons s l,x,ns,c,ob,rest,h=>by
  simp only[Shs.mk]at h;split at h
  ·rename_i c1 ob1 m1 h1;split at h
   ·rename_i c2 ob2 m2 h2;cases h;obtain⟨h3,h4⟩:=fR1 h1;obtain⟨h5,h6⟩:=lQ h2;exact⟨by rw[h3,h5];simp,by simp[h4,h6,Shs.cnt]⟩
   ·cases h
  ·cases h
end
theorem yI1 :∀{s:Shs} {x:s.T.D} {ns:List Nat} {c:List (Bool×List Lf)} {ob:List (Nat×Ob)} {rest:List Nat},s.mkA ns x=some (c,ob,rest)→ns=ob.map (·.1)++rest∧ob.length=s.cnt
 | .nil,x,ns,c,ob,rest,h=>by simp only[Shs.mkA]at h;cases h;exact⟨rfl,rfl⟩
 | .cons s l,x,ns,c,ob,rest,h=>by
  simp only[Shs.mkA]at h;split at h
  ·rename_i c1 ob1 m1 h1;split at h
   ·rename_i c2 ob2 m2 h2;cases h;obtain⟨h3,h4⟩:=fR1 h1;obtain⟨h5,h6⟩:=yI1 h2;exact⟨by rw[h3,h5];simp,by simp[h4,h6,Shs.cnt]⟩
   ·cases h
  ·cases h
theorem iC1 {f g:Lf→Lf} {l:List Lf} (h:∀c∈l,f c=g c):l.map f=l.map g:=oH2 h
theorem gT {s:Sh} {l:Shs} (h:(Shs.cons s l).cnt=0):s.cnt=0∧l.cnt=0:=by simp only[Shs.cnt]at h;omega
mutual
theorem oX {ob ob':List (Nat×Ob)}:∀{s:Sh} {l:List Lf},s.cnt=0→(∀c∈l,∀n∈c.nms,look ob' n=look ob n)→s.take ob' l=s.take ob l∧(∀x ns,s.take ob l=some (x,ns)→ns=[])
 | .val t,l,_,h=>by
  have:l.map (Lf.frz ob')=l.map (Lf.frz ob):=iC1 fun c hc=>xJ1 (h c hc)
  refine⟨by simp only[Sh.take,this],fun x ns hx=>?_⟩;simp only[Sh.take]at hx;split at hx <;> cases hx;rfl
 | .own _ _,_,h,_=>by cases h
 | .mv _ _,_,h,_=>by cases h
 | .box _ _,_,h,_=>by simp[Sh.cnt]at h
 | .fn f sh,l,hc,h=>by
  simp only[Sh.take];split
  ·rename_i f' cs;generalize Nat.beq f f'=b
   cases b with
   | true=>
    have hh:∀c∈cs.map (fun b=>Lf.p b 0),∀n∈c.nms,look ob' n=look ob n:=by intro c hc2 n hn;obtain⟨b,hb,rfl⟩:=kF2.1 hc2;simp only[Lf.nms,wF2]at hn;subst hn;exact h _ nE2 n hb
    exact fP (s:=sh) hc hh
   | false=>exact⟨rfl,fun _ _ hx=>by cases hx⟩
  ·exact⟨rfl,fun _ _ hx=>by cases hx⟩
 | .rcd sh,l,hc,h=>by
  by_cases hf:sh.flat=true
  ·have e:∀ob,Sh.take ob (.rcd sh) l=sh.take ob l:=fun ob=>if_pos hf
   rw[e,e];exact fP (s:=sh) hc h
  ·have e:∀ob,Sh.take ob (.rcd sh) l=none:=fun ob=>if_neg hf
   rw[e,e];exact⟨rfl,fun _ _ hx=>by cases hx⟩
theorem fP {ob ob':List (Nat×Ob)}:∀{s:Shs} {l:List Lf},s.cnt=0→(∀c∈l,∀n∈c.nms,look ob' n=look ob n)→s.take ob' l=s.take ob l∧(∀x ns,s.take ob l=some (x,ns)→ns=[])
 | .nil,l,_,_=>by refine⟨rfl,fun x ns hx=>?_⟩;simp only[Shs.take]at hx;split at hx <;> cases hx;rfl
 | .cons s l,c,hc,h=>by
  obtain⟨h1,h2⟩:=gT hc;obtain⟨h3,h4⟩:=oX (s:=s) (l:=c.take s.w) h1 fun c hc=>h c (List.mem_of_mem_take hc)
  obtain⟨h5,h6⟩:=fP (s:=l) (l:=c.drop s.w) h2 fun c hc=>h c (List.mem_of_mem_drop hc)
  refine⟨by simp only[Shs.take,h3,h5],fun x ns hx=>?_⟩;simp only[Shs.take]at hx;split at hx
  ·rename_i x1 a1 e1;split at hx
   ·rename_i y b1 e2;cases hx;rw[h4 _ _ e1,h6 _ _ e2];rfl
   ·cases hx
  ·cases hx
end
theorem tQ1 {x:Slot} {l:List Lf} (h:x.cells=some l) {c:Lf} (hc:c∈l) {n:Nat} (hn:n∈c.nms):n∈x.nms:=by
 cases x with
 | lf d=>
  simp only[Slot.cells]at h;split at h
  ·cases h;simp only[wF2]at hc;subst hc;exact hn
  ·cases h
 | ag m=>
  simp only[Slot.cells]at h;split at h
  ·cases h;exact aH2.2 ⟨c,hc,hn⟩
  ·cases h
 | _=>cases h
theorem gP {ob ob':List (Nat×Ob)}:∀{s:Shs} {l:List Slot},s.cnt=0→(∀c∈l,∀n∈c.nms,look ob' n=look ob n)→s.takeA ob' l=s.takeA ob l∧(∀x ns,s.takeA ob l=some (x,ns)→ns=[])
 | .nil,l,_,_=>by refine⟨rfl,fun x ns hx=>?_⟩;simp only[Shs.takeA]at hx;split at hx <;> cases hx;rfl
 | .cons s l,[],_,_=>⟨rfl,fun x ns hx=>by simp[Shs.takeA]at hx⟩
 | .cons s l,c::r,hc,h=>by
  obtain⟨h1,h2⟩:=gT hc;obtain⟨h5,h6⟩:=gP (s:=l) (l:=r) h2 fun c hc=>h c (mE2 _ hc)
  cases hcl:c.cells with
  | none=>simp[Shs.takeA,hcl]
  | some cl=>
   obtain⟨h3,h4⟩:=oX (s:=s) (l:=cl) h1 fun d hd n hn=>h c nE2 n (tQ1 hcl hd hn)
   simp only[Shs.takeA,hcl,h3,h5];refine⟨trivial,fun x ns hx=>?_⟩;split at hx
   ·split at hx
    ·rename_i x1 a1 e1;split at hx
     ·rename_i y b1 e2;cases hx;rw[h4 _ _ e1,h6 _ _ e2];rfl
     ·cases hx
    ·cases hx
   ·cases hx
mutual
theorem gY {ob ob':List (Nat×Ob)}:∀{s:Sh} {l:List Lf},s.cnt=0→s.vals ob' l=s.vals ob l
 | .val t,l,_=>rfl
 | .own _ _,_,h=>by cases h
 | .mv _ _,_,h=>by cases h
 | .box _ _,_,h=>by simp[Sh.cnt]at h
 | .fn f sh,l,hc=>by
  simp only[Sh.vals];split
  ·exact yO (s:=sh) hc
  ·rfl
 | .rcd sh,l,hc=>yO (s:=sh) hc
theorem yO {ob ob':List (Nat×Ob)}:∀{s:Shs} {l:List Lf},s.cnt=0→s.vals ob' l=s.vals ob l
 | .nil,l,_=>rfl
 | .cons s l,c,hc=>by obtain⟨h1,h2⟩:=gT hc;simp only[Shs.vals,gY h1 (ob:=ob) (ob':=ob'),yO h2 (ob:=ob) (ob':=ob')]
end
theorem jW {ob ob':List (Nat×Ob)}:∀{s:Shs} {l:List Slot},s.cnt=0→s.valsA ob' l=s.valsA ob l
 | .nil,l,_=>rfl
 | .cons s l,[],_=>rfl
 | .cons s l,c::r,hc=>by obtain⟨h1,h2⟩:=gT hc;simp only[Shs.valsA,gY h1 (ob:=ob) (ob':=ob'),jW h2 (ob:=ob) (ob':=ob')]
theorem xQ {f:FuncId} {as:List Slot}:∀{l:List (Nat×FnD)},(∀x∈l,x.2.fid=f→x.2.par.takeA t.ob as=x.2.par.takeA s.ob as)→fits t f as l=fits s f as l
 | [],_=>rfl
 | (k,D)::l,h=>by
  have ih:=xQ (l:=l) fun x hx=>h x (mE2 _ hx)
  simp only[fits,ih];by_cases hf:D.fid=f
  ·rw[h (k,D) nE2 hf]
  ·have:Nat.beq D.fid f=false:=by
    cases hb:Nat.beq D.fid f with
    | false=>rfl
    | true=>exact absurd (beqt.1 hb) hf
   simp[this]
structure CD (D:FnD) (s:St) (d:Option Nat) (as:List Slot) (s2:St) (x:D.par.T.D) (k:(D.res.T.app D.par.inout.T).D→Option (Slot×List (Nat×Ob))) (ns:List Nat):Prop where
 tk:D.par.takeA s.ob as=some (x,ns)
 nd:nodupB (ns++dedup [] (rowNames (D.par.valsA s.ob as)))=true
 st:s2=s.withOb (delAll s.ob ns)
 ok:(nodupB (renew (D.par.keep ns) D.nst)&&renewOK s2 (D.par.keep ns) D.nst&&((!(D.res.vr||D.par.inout.vr))||isNil (rowNames (D.par.valsA s.ob as))))=true
 k:k=fun r=>backAny D s2 (s.id d) (renew (D.par.keep ns) D.nst) r
theorem dD1 {d:Option Nat} {xs:List Operand} {as0 caps:List Slot} {x:D.par.T.D} {k:(D.res.T.app D.par.inout.T).D→Option (Slot×List (Nat×Ob))}
  (hf:(isNil (rowNames (D.par.valsA s.ob (as0++caps))) || !(D.res.vr||D.par.inout.vr))=true) (has:s.cellsOf xs=some as0) (h:pB1 D s d xs as0 caps=some (s2,x,k)):∃ns,CD D s d (as0++caps) s2 x k ns:=by
 unfold pB1 at h
 have hs:(if(D.res.vr||D.par.inout.vr)=true then s.frzAll (D.par.valsA s.ob (as0++caps))else s)=s:=by
  simp only[kG2,bG2]at hf;split
  ·rename_i hr;rcases hf with hf | hf
   ·exact iX (rT hf)
   ·rw[hr]at hf;cases hf
  ·rfl
 simp only[hs,has]at h;split at h
 ·cases h
 ·rename_i x' ns hta;split at h
  ·rename_i hnd;split at h
   ·rename_i hok;cases h;exact⟨ns,hta,hnd,rfl,hok,rfl⟩
   ·cases h
  ·cases h
theorem aH1 {d:Option Nat} {xs:List Operand} {as0 caps:List Slot} {x:D.par.T.D} {k:(D.res.T.app D.par.inout.T).D→Option (Slot×List (Nat×Ob))} {ns:List Nat}
  (hf:(isNil (rowNames (D.par.valsA s.ob (as0++caps))) || !(D.res.vr||D.par.inout.vr))=true) (has:s.cellsOf xs=some as0) (h:CD D s d (as0++caps) s2 x k ns):pB1 D s d xs as0 caps=some (s2,x,k):=by
 obtain⟨h1,h2,h3,h4,h5⟩:=h;unfold pB1
 have hs:(if(D.res.vr||D.par.inout.vr)=true then s.frzAll (D.par.valsA s.ob (as0++caps))else s)=s:=by
  simp only[kG2,bG2]at hf;split
  ·rename_i hr;rcases hf with hf | hf
   ·exact iX (rT hf)
   ·rw[hr]at hf;cases hf
  ·rfl
 subst h3;subst h5;simp only[hs,has,h1,h2,h4,if_true]
theorem yU {d:Option Nat} {f:FuncId} {xs:List Operand} {caps:List Slot} (hinl:E.inl=[]) (h:jG E s d f xs caps=some (s1,out)):
  ∃as0 key D x k,∃(hD:look E.fn key=some D),s.cellsOf xs=some as0∧fits s f (as0++caps) (E.byF f)=some key∧D.fid=f∧pB1 D s d xs as0 caps=some (s1,x,k) ∧
   out=(if D.opt=true then .callN key (cast (by rw[Env.argT,hD]) x) (fun r=>k (cast (by rw[Env.resT,hD]) r)) (E.resT key).optQ else .call key (cast (by rw[Env.argT,hD]) x) fun r=>k (cast (by rw[Env.resT,hD]) r)):=by
 unfold jG at h;split at h
 ·cases h
 ·rename_i as0 has;rw[hinl]at h;simp only[look]at h;split at h
  ·cases h
  ·rename_i key hfit;split at h
   ·cases h
   ·rename_i D hD;split at h
    ·rename_i hf;split at h
     ·rename_i s2 x k hc;cases h;exact⟨as0,key,D,x,k,hD,has,hfit,beqt.1 hf,hc,rfl⟩
     ·cases h
    ·cases h
theorem lX {d:Option Nat} {f:FuncId} {xs:List Operand} {caps:List Slot} (hinl:E.inl=[]) {as0:List Slot} {key:Nat} {x:D.par.T.D} {k:(D.res.T.app D.par.inout.T).D→Option (Slot×List (Nat×Ob))} (hD:look E.fn key=some D)
  (has:s.cellsOf xs=some as0) (hfit:fits s f (as0++caps) (E.byF f)=some key) (hf:D.fid=f) (hc:pB1 D s d xs as0 caps=some (s1,x,k)):
  jG E s d f xs caps=some (s1,if D.opt=true then .callN key (cast (by rw[Env.argT,hD]) x) (fun r=>k (cast (by rw[Env.resT,hD]) r)) (E.resT key).optQ else .call key (cast (by rw[Env.argT,hD]) x) fun r=>k (cast (by rw[Env.resT,hD]) r)):=by
 unfold jG;rw[has];simp only[hinl,look,hfit];split
 ·rename_i h;exact absurd (h.symm.trans hD) (by simp)
 ·rename_i D' hD';have e:D'=D:=oF2 (hD'.symm.trans hD);subst e;rw[if_pos (beqt.2 hf),hc]
end
section
variable {E : Env} {s t s1 : St} {o : Oper} {out : Out E}
theorem eX (s:St) (r:Nat):s.frz r=s.frzAll [.o r]:=rfl
theorem qR1 {g:List Bool} {x:Slot} {ob:List (Nat×Ob)} (h:step E s o=some (s1,.go g x ob)):∃l,s1=s.frzAll l:=by
 cases ho:o.op with
 | slice T y lo hi mx=>
  cases mx with
  | some m=>simp only[step,ho]at h;cases h
  | none=>
   simp only[step,ho]at h
   (repeat' (split at h)) <;> first | (cases h;done) | (cases h;exact⟨[],rfl⟩) | (cases h;exact⟨_,eX _ _⟩)
 | convert a b y=>
  simp only[step,ho]at h
  (repeat' (split at h)) <;> first | (cases h;done) | (cases h;exact⟨[],rfl⟩) | (cases h;exact⟨_,eX _ _⟩)
 | buildSlice T n ps=>
  simp only[step,ho]at h;split at h
  ·(repeat' (split at h)) <;> first | (cases h;done) | (cases h;exact⟨[],rfl⟩)
  ·(repeat' (split at h)) <;> first | (cases h;done) | (cases h;exact⟨_,rfl⟩)
 | call c=>
  cases hb:c.callee with
  | value y=>
   cases y with
   | func f=>
    simp only[step,ho,hb]at h;unfold jG at h
    (repeat' (split at h)) <;> cases h
   | global g=>simp only[step,ho,hb,St.opnd]at h;cases h
   | _=>
    simp only[step,ho,hb]at h;split at h
    ·split at h
     ·unfold jG at h
      (repeat' (split at h)) <;> cases h
     ·cases h
    ·cases h
  | invoke r m=>simp only[step,ho,hb]at h;cases h
  | builtin b=>
   cases b <;> first
    | (simp only[step,ho,hb]at h;cases h;done)
    | (simp only[step,ho,hb,appd]at h;(repeat' (split at h)) <;> first | (cases h;done) | (cases h;exact⟨[],rfl⟩))
 | typeAssert y T U b=>
  cases b <;> simp only[step,ho]at h <;> (repeat' (split at h)) <;> first | (cases h;done) | (cases h;exact⟨[],rfl⟩)
 | makeFunc f l m=>
  cases f <;> simp only[step,ho]at h <;> (repeat' (split at h)) <;> first | (cases h;done) | (cases h;exact⟨[],rfl⟩)
 | _=>
  simp only[step,ho]at h
  first
   | (cases h;done)
   | (cases h;exact⟨[],rfl⟩)
   | ((repeat' (split at h)) <;> first | (cases h;done) | (cases h;exact⟨[],rfl⟩))
theorem wN1 {g:List Bool} {x:Slot} {ob:List (Nat×Ob)} (h:step E s o=some (s1,.go g x ob)) (hl:oN s1.ob s.ob=true):s1=s:=by obtain⟨l,rfl⟩:=qR1 h;exact((jO l s).2 (zX hl)).1
theorem dY {key:Nat} {x:(E.argT key).D} {k:(E.resT key).D→Option (Slot×List (Nat×Ob))} (h:step E s o=some (s1,.call key x k)):
  ∃c f caps,o.op = .call c∧(∀y∈c.args.toList,y∈o.op.operands.toList)∧jG E s o.dst f c.args.toList caps=some (s1,.call key x k)∧(∀as0,s.cellsOf c.args.toList=some as0→s.callee o=some (f,as0++caps)) ∧
   (∀t,Agr o s t→step E t o=jG E t o.dst f c.args.toList caps) ∧ ∀y∈caps,∀n∈y.nms,n∈s.opNms o:=by
 cases ho:o.op with
 | call c=>
  have hargs:∀y∈c.args.toList,y∈o.op.operands.toList:=fun y hy=>by simp only[ho,Op.operands,Call.operands,Array.toList_append];exact tE2 _ hy
  cases hb:c.callee with
  | value y=>
   have hy:y∈o.op.operands.toList:=by simp[ho,Op.operands,Call.operands,hb]
   cases y with
   | func f=>
    simp only[step,ho,hb]at h;refine⟨c,f,[],rfl,ho ▸ hargs,h,fun as0 has=>by simp only[St.callee,ho,hb,has,zE2],fun t _=>by simp only[step,ho,hb],fun y hy=>by cases hy⟩
   | global g=>simp only[step,ho,hb,St.opnd]at h;cases h
   | tmp i=>
    simp only[step,ho,hb]at h;split at h
    ·rename_i f cs e1;split at h
     ·rename_i hfb;refine⟨c,f,cs.map fun b=>.lf (.p b 0),rfl,ho ▸ hargs,h,fun as0 has=>by simp only[St.callee,ho,hb,has,e1],fun t ha=>by simp only[step,ho,hb,ha.op _ hy,e1,if_pos hfb],fun y hy2 n hn=>?_⟩;obtain⟨b,hbm,rfl⟩:=kF2.1 hy2;simp only[Slot.nms,Lf.nms,wF2]at hn;subst hn;exact qG hy e1 hbm
     ·cases h
    ·cases h
   | const v=>
    simp only[step,ho,hb]at h;split at h
    ·rename_i f cs e1;split at h
     ·rename_i hfb;refine⟨c,f,cs.map fun b=>.lf (.p b 0),rfl,ho ▸ hargs,h,fun as0 has=>by simp only[St.callee,ho,hb,has,e1],fun t ha=>by simp only[step,ho,hb,ha.op _ hy,e1,if_pos hfb],fun y hy2 n hn=>?_⟩;obtain⟨b,hbm,rfl⟩:=kF2.1 hy2;simp only[Slot.nms,Lf.nms,wF2]at hn;subst hn;exact qG hy e1 hbm
     ·cases h
    ·cases h
  | invoke r m=>simp only[step,ho,hb]at h;cases h
  | builtin b=>
   exfalso;rcases tJ h with⟨g,x,ob,e⟩ | ⟨c',y,z,e⟩ | ⟨c',y,e,e2⟩
   ·cases e
   ·rw[ho]at e;cases e
   ·rw[ho]at e;cases e;rw[hb]at e2;cases e2
 | _=>
  exfalso;rcases tJ h with⟨g,x,ob,e⟩ | ⟨c',y,z,e⟩ | ⟨c',y,e,e2⟩
  ·cases e
  ·simp only[step,e]at h;split at h <;> cases h
  ·rw[ho]at e;cases e
theorem lU {r:Bool} {f:FuncId} {as:List Slot} (h:mV E s o r=true) (hc:s.callee o=some (f,as)):∀x∈E.fn,x.2.fid=f →
  (isNil (rowNames (x.2.par.valsA s.ob as)) || !(x.2.res.vr||x.2.par.inout.vr))=true∧(r=true→x.2.par.cnt=0):=by
 intro x hx hf;unfold mV at h;rw[hc]at h;have:=pG2.1 h x (Env.mem_byF.2 ⟨hx,hf⟩);simp only[kG2,iE2,bG2]at this;obtain⟨h1,h2⟩:=this;refine⟨by simpa using h1,fun hr=>?_⟩;rcases h2 with h2 | h2
 ·rw[hr]at h2;cases h2
 ·exact beqt.1 h2
theorem uN {n:Nat}:∀{l ob:List (Nat×Ob)},n∉l.map (·.1)→look (eI ob l) n=look ob n
 | [],_,_=>rfl
 | (k,b)::l,ob,h=>by simp only[qF2,pE2,not_or]at h;simp only[eI];rw[uN h.2,zF,if_neg (Ne.symm h.1)]
theorem cZ {ob:List (Nat×Ob)} {ns:List Nat} {n:Nat} (h:n∉xS ob (delAll ob ns)):look (delAll ob ns) n=look ob n:=by
 cases h1:look ob n with
 | none=>
  cases h2:look (delAll ob ns) n with
  | none=>rfl
  | some b=>rw[(uM h2).2]at h1;cases h1
 | some b=>
  cases h2:look (delAll ob ns) n with
  | some b'=>rw[←h1,(uM h2).2]
  | none=>
   refine absurd ?_ h;unfold xS;rw[zF2];exact⟨kF2.2 ⟨_,lK h1,rfl⟩,by rw[h2]⟩
theorem sM {s t:St}:∀{bk:List Nat} {fl:List Bool},(∀i m:Nat,bk[i]?=some m→fl[i]?=some true→t.fresh (m+1000000)=s.fresh (m+1000000))→renewOK t bk fl=renewOK s bk fl
 | m::bk,true::fl,h=>by simp only[renewOK];rw[h 0 m rfl rfl,sM (bk:=bk) (fl:=fl) fun i k h1 h2=>h (i+1) k (by simpa using h1) (by simpa using h2)]
 | m::bk,false::fl,h=>by simp only[renewOK];rw[sM (bk:=bk) (fl:=fl) fun i k h1 h2=>h (i+1) k (by simpa using h1) (by simpa using h2)]
 | [],_,_=>by simp[renewOK]
 | _::_,[],_=>by simp[renewOK]
theorem kD1 :∀{bk:List Nat} {fl:List Bool} {i m:Nat},bk[i]?=some m→fl[i]?=some true→(renew bk fl)[i]?=some (m+1000000)
 | m::bk,true::fl,0,k,h,_=>by simp at h;subst h;rfl
 | m::bk,false::fl,0,k,_,h=>by simp at h
 | m::bk,b::fl,i+1,k,h1,h2=>by have:=kD1 (bk:=bk) (fl:=fl) (i:=i) (m:=k) (by simpa using h1) (by simpa using h2);cases b <;> simpa[renew]using this
 | [],_,_,_,h,_=>by simp at h
 | _::_,[],_,_,_,h=>by simp at h
def aQ1 :List (Bool×List Lf)→Slot
 | []=>.lf .u
 | [c]=>gS c
 | cs=>.tp cs
theorem mY {D:FnD} {s2:St} {d:Nat} {rn:List Nat} {r:(D.res.T.app D.par.inout.T).D} {y:Slot} {l:List (Nat×Ob)} (h:yX D s2 d rn r=some (y,l)):
  ∃c back rest cs new rest',D.par.inout.mk rn (D.res.T.snd D.par.inout.T r)=some (c,back,rest)∧D.res.mkA (fE d 12) (D.res.T.fst D.par.inout.T r)=some (cs,new,rest') ∧
   (new.all fun y=>s2.fresh y.1 && !(rn.any (Nat.beq y.1)))=true∧y=aQ1 cs∧l=back++new:=by
 unfold yX at h;split at h
 ·cases h
 ·rename_i c back rest h1;split at h
  ·cases h
  ·rename_i cs new rest' h2;split at h
   ·rename_i h3;cases h;exact⟨c,back,rest,cs,new,rest',h1,h2,h3,by cases cs with | nil=>rfl | cons a l=>cases l <;> rfl,rfl⟩
   ·cases h
theorem fC1 {D:FnD} {s2:St} {d:Nat} {rn:List Nat} {r:(D.res.T.app D.par.inout.T).D} {c:List Lf} {back:List (Nat×Ob)} {rest r2:List Nat} {cs:List (Bool×List Lf)} {new:List (Nat×Ob)}
  (h1:D.par.inout.mk rn (D.res.T.snd D.par.inout.T r)=some (c,back,rest)) (h2:D.res.mkA (fE d 12) (D.res.T.fst D.par.inout.T r)=some (cs,new,r2))
  (h3:(new.all fun y=>s2.fresh y.1 && !(rn.any (Nat.beq y.1)))=true):yX D s2 d rn r=some (aQ1 cs,back++new):=by
 unfold yX;simp only[h1,h2,h3,if_true]
 cases cs with
 | nil=>rfl
 | cons a l=>cases l <;> rfl
theorem iS {ob:List (Nat×Ob)} {n:Nat} (h:t.sl.any (Slot.names n)=s.sl.any (Slot.names n)):(t.withOb ob).fresh n=(s.withOb ob).fresh n:=by unfold St.fresh St.withOb;simp only[h]
theorem dV1 {key:Nat} {x:(E.argT key).D} {k:(E.resT key).D→Option (Slot×List (Nat×Ob))} (hinl:E.inl=[]) (ha:Agr o s t) (hob:t.ob=s.ob) (hok:mV E s o false=true) (h:step E s o=some (s1,.call key x k)) {r:(E.resT key).D} {y:Slot} {l:List (Nat×Ob)}
  (hk:k r=some (y,l)) (hsa:∀n,n∈l.map (·.1)++fE (s.id o.dst) 12→t.sl.any (Slot.names n)=s.sl.any (Slot.names n)):
  (∃k',step E t o=some (t.withOb s1.ob,.call key x k')∧k' r=some (y,l))∧s1=s.withOb s1.ob ∧ ∀n,n∉xS s.ob s1.ob→n∉l.map (·.1)→look (eI s1.ob l) n=look s.ob n:=by
 obtain⟨c,f,caps,ho,hargs,hco,hcal,hst,hcaps⟩:=dY h;obtain⟨as0,key',D,x0,k0,hD,has,hfit,hf,hcd,hout⟩:=yU hinl hco;by_cases hopt:D.opt=true
 ·rw[if_pos hopt]at hout;cases hout
 rw[if_neg hopt]at hout;cases hout;obtain⟨hnf,_⟩:=lU hok (hcal as0 has) (key,D) (lK hD) hf;obtain⟨ns,h1,h2,h3,h4,h5⟩:=dD1 hnf has hcd;subst h3;subst h5;simp only[cast_cast,cast_eq,backAny,if_neg hopt]at hk;obtain⟨cc,back,rest,cs,new,rest',b1,b2,b3,b4,b5⟩:=mY hk;subst b5;obtain⟨q1,q2⟩:=lQ b1;obtain⟨q3,q4⟩:=yI1 b2;have hid:t.id o.dst=s.id o.dst:=ha.id;have has':t.cellsOf c.args.toList=some as0:=by rw[cJ fun y hy=>ha.op y (hargs y hy)];exact has
 have hnf':(isNil (rowNames (D.par.valsA t.ob (as0++caps))) || !(D.res.vr||D.par.inout.vr))=true:=by rw[hob];exact hnf
 have hfit':fits t f (as0++caps) (E.byF f)=some key:=by rw[xQ (s:=s) fun x _ _=>by rw[hob]];exact hfit
 have hren:∀i m:Nat,(D.par.keep ns)[i]?=some m→D.nst[i]?=some true→m+1000000∈back.map (·.1):=by
  intro i m g1 g2;have g3:=kD1 g1 g2;rw[q1]at g3
  have hi:i<(back.map (·.1)).length:=by rw[gG2,q2,←vO1];exact(sF2.1 g2).1
  rw[tF2 hi]at g3;exact List.mem_of_getElem? g3
 refine⟨⟨fun r=>backAny D (t.withOb (delAll s.ob ns)) (t.id o.dst) (renew (D.par.keep ns) D.nst) (cast (by rw[Env.resT,hD]) r),?_,?_⟩,rfl,fun n hn hn2=>?_⟩
 ·rw[hst t ha];refine(lX (s:=t) hinl hD has' hfit' hf ?_).trans (by rw[if_neg hopt]);refine(aH1 hnf' has' (ns:=ns) ⟨by rw[hob];exact h1,by rw[hob];exact h2,by rw[hob];rfl,?_,rfl⟩);simp only[iE2]at h4 ⊢;obtain⟨⟨g1,g2⟩,g3⟩:=h4;refine⟨⟨g1,?_⟩,by rw[hob];exact g3⟩;rw[sM (s:=s.withOb (delAll s.ob ns))]
  ·exact g2
  ·intro i m e1 e2;have:=hren i m e1 e2;refine iS (hsa _ ?_);rw[mF2];exact bF2 _ (bF2 _ this)
 ·simp only[cast_cast,cast_eq,backAny,if_neg hopt];rw[b4];refine fC1 b1 (by rw[hid];exact b2) ?_;rw[pG2]at b3 ⊢;intro z hz;have:=b3 z hz;simp only[iE2]at this ⊢;refine⟨?_,this.2⟩;rw[iS (hsa z.1 ?_)]
  ·exact this.1
  ·refine tE2 _ ?_;rw[q3];exact bF2 _ (kF2.2 ⟨z,hz,rfl⟩)
 ·rw[uN hn2];exact cZ hn
theorem eV1 {key:Nat} {x:(E.argT key).D} {k:(E.resT key).D→Option (Slot×List (Nat×Ob))} (hinl:E.inl=[]) (ha:Agr o s t) (hl:∀n∈s.opNms o,look t.ob n=look s.ob n) (hok:mV E s o true=true) (h:step E s o=some (s1,.call key x k))
  (hlen:oN s1.ob s.ob=true) {r:(E.resT key).D} {y:Slot} (hk:k r=some (y,[])):s1=s ∧ ∃k',step E t o=some (t,.call key x k')∧k' r=some (y,[]):=by
 obtain⟨c,f,caps,ho,hargs,hco,hcal,hst,hcaps⟩:=dY h;obtain⟨as0,key',D,x0,k0,hD,has,hfit,hf,hcd,hout⟩:=yU hinl hco;by_cases hopt:D.opt=true
 ·rw[if_pos hopt]at hout;cases hout
 rw[if_neg hopt]at hout;cases hout;have hspec:=lU hok (hcal as0 has);obtain⟨hnf,hcnt⟩:=hspec (key,D) (lK hD) hf;have hcnt:=hcnt rfl;obtain⟨ns,h1,h2,h3,h4,h5⟩:=dD1 hnf has hcd;subst h3;subst h5;simp only[cast_cast,cast_eq,backAny,if_neg hopt]at hk;obtain⟨cc,back,rest,cs,new,rest',b1,b2,b3,b4,b5⟩:=mY hk;have hnew:back=[]∧new=[]:=by simpa using b5.symm
 have hnm:∀c∈as0++caps,∀n∈c.nms,look t.ob n=look s.ob n:=by
  intro c' hc' n hn;refine hl n ?_;rcases xE2.1 hc' with hc' | hc'
  ·have:∀{l:List Operand} {cs:List Slot},s.cellsOf l=some cs → ∀c∈cs,∃y∈l,s.opnd y=some c:=by
    intro l
    induction l with
    | nil=>intro cs h c hc;simp only[St.cellsOf]at h;cases h;cases hc
    | cons y l ih=>
     intro cs h c hc;simp only[St.cellsOf]at h;split at h
     ·rename_i z hz;split at h
      ·rename_i r' hr;cases h;rcases pE2.1 hc with rfl | hc
       ·exact⟨y,nE2,hz⟩
       ·obtain⟨y',h1,h2⟩:=ih hr c hc;exact⟨y',mE2 _ h1,h2⟩
      ·cases h
     ·cases h
   obtain⟨y',h1,h2⟩:=this has c' hc';exact qG (hargs y' h1) h2 hn
  ·exact hcaps c' hc' n hn
 obtain⟨htk,hns⟩:=gP (ob:=s.ob) (ob':=t.ob) (s:=D.par) (l:=as0++caps) hcnt hnm;have hns0:=hns _ _ h1;subst hns0;have hvals:D.par.valsA t.ob (as0++caps)=D.par.valsA s.ob (as0++caps):=jW hcnt;have hid:t.id o.dst=s.id o.dst:=ha.id;have has':t.cellsOf c.args.toList=some as0:=by rw[cJ fun y hy=>ha.op y (hargs y hy)];exact has
 have hnf':(isNil (rowNames (D.par.valsA t.ob (as0++caps))) || !(D.res.vr||D.par.inout.vr))=true:=by rw[hvals];exact hnf
 have hfit':fits t f (as0++caps) (E.byF f)=some key:=by rw[xQ (s:=s) fun x hx hfx=>(gP ((hspec x (Env.mem_byF.1 hx).1 hfx).2 rfl) hnm).1];exact hfit
 have hkeep:D.par.keep ([]:List Nat)=[]:=by
  cases hkk:D.par.keep ([]:List Nat)with
  | nil=>rfl
  | cons n l=>exact absurd (tA1 D.par [] n (by rw[hkk];exact nE2)) (by simp)
 refine⟨rfl,⟨fun r=>backAny D t (t.id o.dst) (renew (D.par.keep []) D.nst) (cast (by rw[Env.resT,hD]) r),?_,?_⟩⟩
 ·rw[hst t ha];refine(lX (s:=t) (s1:=t) hinl hD has' hfit' hf ?_).trans (by rw[if_neg hopt]);refine(aH1 hnf' has' (s2:=t) (ns:=[]) ⟨htk.trans h1,by rw[hvals];exact h2,rfl,?_,rfl⟩);simp only[iE2]at h4 ⊢;obtain⟨⟨g1,g2⟩,g3⟩:=h4;refine⟨⟨g1,?_⟩,by rw[hvals];exact g3⟩;rw[hkeep];simp[renewOK]
 ·simp only[cast_cast,cast_eq,backAny,if_neg hopt];obtain⟨rfl,rfl⟩:=hnew;rw[b4];exact fC1 b1 (by rw[hid];exact b2) (by simp)
end
section
variable {P : Program} {E : Env} {R : Type} {ev : Ev E} {inl : FuncId → List Slot → St → (Slot → List (Nat × Ob) → Option R) → Option R} {ops : Array Oper} {s t s1 s2 : St} {o : Oper}
theorem rW1 (s:St) (i:Nat) (x:Slot) (h:s.get i=x):s.set i x=s:=by
 have:s.sl.set i x=s.sl:=by
  subst h;apply List.ext_getElem?;intro j;rw[List.getElem?_set];by_cases hij:i=j
  ·subst hij;rw[if_pos rfl];by_cases hl:i<s.sl.length
   ·rw[if_pos hl];simp[St.get_def,hl]
   ·rw[if_neg hl,uG2 (by omega)]
  ·rw[if_neg hij]
 rw[St.set_def,this]
theorem zA1 {d:Option Nat} {x:Slot} {j:Nat} (h:∀i,d=some i→i≠j):(s.setd d x).get j=s.get j:=by
 cases d with
 | none=>rfl
 | some i=>
  simp only[St.setd,St.set_def,St.get_def,oE2];rw[List.getElem?_set_ne (h i rfl)]
theorem nU {d e:Option Nat} {x y:Slot} (h:∀i,d=some i→e≠some i):(s.setd d x).setd e y=(s.setd e y).setd d x:=by
 cases d with
 | none=>rfl
 | some i=>
  cases e with
  | none=>rfl
  | some j=>
   have:i≠j:=fun e=>h i rfl (by rw[e])
   simp only[St.setd,St.set_def];rw[List.set_comm _ _ this]
theorem oV1 (d:Option Nat) (x:Slot):(s.setd d x).b=s.b:=(iE s d x).2
theorem sJ {d:Option Nat} {x:Slot} {ob:List (Nat×Ob)}:(s.withOb ob).setd d x=(s.setd d x).withOb ob:=by cases d <;> rfl
theorem eN1 {f:Slot→Bool}:∀{l:List Slot} {i:Nat} {x:Slot},f x=false→f (l.getD i (.lf .u))=false→(l.set i x).any f=l.any f
 | [],_,_,_,_=>rfl
 | y::l,0,x,hx,hy=>by simp at hy;simp[hx,hy]
 | y::l,i+1,x,hx,hy=>by simp only[List.set_cons_succ,List.any_cons];rw[eN1 hx (by simpa using hy)]
theorem uH1 {d:Option Nat} {x:Slot} {n:Nat} (hx:n∉x.nms) (ho:n∉s.oldNms d):(s.setd d x).sl.any (Slot.names n)=s.sl.any (Slot.names n):=by
 cases d with
 | none=>rfl
 | some i=>
  rw[show(s.setd (some i) x).sl=s.sl.set i x from congrArg St.sl (St.set_def s i x)];refine eN1 (jS hx) (jS ?_);rw[←St.get_def];exact ho
structure Sees (ops:Array Oper) (o:Oper) (s t:St):Prop where
 b:t.b=s.b
 get:∀j∈o.looksAt ops,t.get j=s.get j
theorem Sees.trans (h:Sees ops o s s1) (h':Sees ops o s1 s2):Sees ops o s s2:=⟨h'.b.trans h.b,fun j hj=>(h'.get j hj).trans (h.get j hj)⟩
theorem Sees.agr (h:Sees ops o s t):Agr o s t:=⟨h.b,fun y hy=>by
 cases y with
 | tmp j=>exact congrArg some (h.get j (bF2 _ (List.mem_filterMap.2 ⟨.tmp j,hy,rfl⟩)))
 | _=>rfl⟩
theorem Sees.setd {d:Option Nat} {x:Slot} (h:∀i,d=some i→i∉o.looksAt ops):Sees ops o s (s.setd d x):=⟨oV1 d x,fun j hj=>zA1 fun i hi=>fun e=>h i hi (e ▸ hj)⟩
theorem Sees.setd' {d:Option Nat} {x:Slot} (h:∀i,d=some i→i∉o.looksAt ops):Sees ops o (s.setd d x) s:=⟨(oV1 d x).symm,fun j hj=>(zA1 fun i hi=>fun e=>h i hi (e ▸ hj)).symm⟩
theorem Sees.withOb {ob:List (Nat×Ob)}:Sees ops o s (s.withOb ob):=⟨rfl,fun _ _=>rfl⟩
def To (ev:Ev E) (inl:FuncId→List Slot→St→(Slot→List (Nat×Ob)→Option R)→Option R) (ops:Array Oper) (o:Oper) (s s':St):Prop:=∀K:St→Option R,opsK E ev inl ops [o] s K=K s'
def Tr (ev:Ev E) (inl:FuncId→List Slot→St→(Slot→List (Nat×Ob)→Option R)→Option R) (ops:Array Oper) (o:Oper) (e:Ent) (s s':St):Prop:=
 if e.w=true then
  ∃x ob,s'=(s.withOb ob).setd o.dst x∧(∀n,n∉e.nm→look ob n=look s.ob n) ∧
   ∀t,Sees ops o s t→t.ob=s.ob→(∀n∈e.mn,t.sl.any (Slot.names n)=s.sl.any (Slot.names n))→To ev inl ops o t ((t.withOb ob).setd o.dst x)
 else
  ∃x,s'=s.setd o.dst x∧(∀n∈s.oldNms o.dst,n∈e.mn)∧(∀n∈x.nms,n∈e.mn) ∧
   ∀t,Sees ops o s t→(∀n∈e.nm,look t.ob n=look s.ob n)→To ev inl ops o t (t.setd o.dst x)
theorem Tr.to {e:Ent} {s':St} (h:Tr ev inl ops o e s s'):To ev inl ops o s s':=by
 unfold Tr at h;split at h
 ·obtain⟨x,ob,rfl,_,h⟩:=h;exact h s ⟨rfl,fun _ _=>rfl⟩ rfl fun _ _=>rfl
 ·obtain⟨x,rfl,_,_,h⟩:=h;exact h s ⟨rfl,fun _ _=>rfl⟩ fun _ _=>rfl
theorem nR :∀{g:List Bool} {x:Option R},g.all id=true→iQ g x=x
 | [],_,_=>rfl
 | b::l,x,h=>by simp only[kH2,iE2,id]at h;obtain⟨h1,h2⟩:=h;subst h1;exact nR (g:=l) h2
def TrS (ev:Ev E) (inl:FuncId→List Slot→St→(Slot→List (Nat×Ob)→Option R)→Option R) (ops:Array Oper) (o:Oper) (e:Ent) (s s':St):Prop:=
 if e.w=true then
  ∃x ob,s'=(s.withOb ob).setd o.dst x∧(∀n,n∉e.nm→look ob n=look s.ob n) ∧
   ∀t,Sees ops o s t→t.ob=s.ob→(∀n∈e.mn,t.sl.any (Slot.names n)=s.sl.any (Slot.names n)) → ∀K:St→Option R,vM E ev inl t o K=K ((t.withOb ob).setd o.dst x)
 else
  ∃x,s'=s.setd o.dst x∧(∀n∈s.oldNms o.dst,n∈e.mn)∧(∀n∈x.nms,n∈e.mn) ∧
   ∀t,Sees ops o s t→(∀n∈e.nm,look t.ob n=look s.ob n) → ∀K:St→Option R,vM E ev inl t o K=K (t.setd o.dst x)
theorem jL (n:Nat):Nat.beq n n=true:=beqt.2 rfl
theorem bM1 {out:Out E} (hso:zG1 o.op=true) (ha:Agr o s t) (h:step E s o=some (s,out)):zK E o s t out:=by
 cases ho:o.op with
 | move y=>exact xH1 (.inl ho) ha h
 | assign y=>exact xH1 (.inr ho) ha h
 | pick c y z=>exact zU1 ho ha h
 | _=>rw[ho]at hso;cases hso
theorem mH1 (hinl:E.inl=[]) {K:St→Ent→Option R} {r:R} (h:sR E ev s o K=some r):∃s' e,TrS ev inl ops o e s s'∧K s' e=some r:=by
 unfold sR at h;split at h
 ·rename_i s1 out hs;split at h
  ·rename_i hb
   cases out with
   | go g x ob=>
    dsimp only at h;split at h
    ·rename_i hl;obtain⟨hg,hk⟩:=wO h;have e1:=wN1 hs hl;subst e1;cases hr:(rOp o.op||E.litO o)with
     | true=>
      rw[hr,if_pos rfl]at hk;have hob:ob=s1.ob:=by
       rcases xU1 hr ⟨rfl,fun _ _=>rfl⟩ (fun _ _=>rfl) hs with⟨g',x',e,_⟩ | ⟨c,y,z,e,_⟩
       ·cases e;rfl
       ·cases e
      subst hob;refine⟨_,_,?_,hk⟩;unfold TrS;rw[if_neg (by simp)];refine⟨x,rfl,fun n hn=>by simp[hn],fun n hn=>by simp[hn],fun t ht hl' K'=>?_⟩;have hrs:zK E o s1 t (.go g x s1.ob):=by
       cases hso:zG1 o.op with
       | true=>exact bM1 hso ht.agr hs
       | false=>
        rw[hso,if_neg (by simp)]at hl';exact xU1 hr ht.agr hl' hs
      rcases hrs with⟨g',x',e,hst⟩ | ⟨c,y,z,e,_⟩
      ·cases e;simp only[vM,hst,jL,if_true,Out.cps];exact nR hg
      ·cases e
     | false=>
      rw[hr,if_neg (by simp)]at hk;have hw:=fun t (ht:Agr o s1 t) hob hf=>xZ1 hr ht hob hf hinl hs
      refine⟨_,_,?_,hk⟩;unfold TrS;rw[if_pos rfl];refine⟨x,ob,rfl,fun n hn=>?_,fun t ht hob hf K'=>?_⟩
      ·obtain⟨g',x',ob',e,_,h2⟩:=hw s1 ⟨rfl,fun _ _=>rfl⟩ rfl rfl;cases e;simp only[xE2,not_or]at hn;refine h2 n hn.1 ?_;rintro rfl;exact hn.2 (by simp[fE])
      ·have hfr:t.fresh (s1.id o.dst)=s1.fresh (s1.id o.dst):=by unfold St.fresh;rw[hob,hf (s1.id o.dst) (by simp[fE])]
       obtain⟨g',x',ob',e,hst,_⟩:=hw t ht.agr hob hfr;cases e;simp only[vM,hst,jL,if_true,Out.cps];exact nR hg
    ·cases h
   | br c x y=>
    dsimp only at h;have hpk:rOp o.op=true:=by
     rcases tJ hs with⟨g,x,ob,e⟩ | ⟨c',y',z,e⟩ | ⟨c',y',e,e2⟩
     ·cases e
     ·rw[e];rfl
     ·exfalso
      cases y' with
      | func f=>
       simp only[step,e,e2]at hs;obtain⟨_,_,_,_,e⟩:=pK hinl hs;rcases e with e | e <;> cases e
      | global g=>simp only[step,e,e2,St.opnd]at hs;cases hs
      | _=>
       simp only[step,e,e2]at hs;split at hs
       ·split at hs
        ·obtain⟨_,_,_,_,e⟩:=pK hinl hs;rcases e with e | e <;> cases e
        ·cases hs
       ·cases hs
    have hpk2:zG1 o.op=true:=by
     rcases tJ hs with⟨g,x,ob,e⟩ | ⟨c',y',z,e⟩ | ⟨c',y',e,e2⟩
     ·cases e
     ·rw[e];rfl
     ·rw[e]at hpk;simp only[rOp,e2]at hpk;cases hpk
    have e1:s1=s:=by
     rcases tJ hs with⟨g,x,ob,e⟩ | ⟨c',y',z,e⟩ | ⟨c',y',e,e2⟩
     ·cases e
     ·simp only[step,e]at hs;split at hs <;> cases hs;rfl
     ·rw[e]at hpk;simp only[rOp,e2]at hpk;cases hpk
    subst e1
    cases c with
    | true=>
     refine⟨_,_,?_,h⟩;unfold TrS;rw[if_neg (by simp)];refine⟨x,rfl,fun n hn=>by simp[hn],fun n hn=>by simp[hn],fun t ht hl' K'=>?_⟩;rcases bM1 hpk2 ht.agr hs with⟨g',x',e,hst⟩ | ⟨c,y',z',e,hst⟩
     ·cases e
     ·cases e;simp only[vM,hst,jL,if_true,Out.cps,cond_true]
    | false=>
     refine⟨_,_,?_,h⟩;unfold TrS;rw[if_neg (by simp)];refine⟨y,rfl,fun n hn=>by simp[hn],fun n hn=>by simp[hn],fun t ht hl' K'=>?_⟩;rcases bM1 hpk2 ht.agr hs with⟨g',x',e,hst⟩ | ⟨c,y',z',e,hst⟩
     ·cases e
     ·cases e;simp only[vM,hst,jL,if_true,Out.cps,cond_false]
   | call f x k=>
    dsimp only at h;split at h
    ·rename_i hok;rw[lF2]at h;obtain⟨r',hr',h⟩:=h;split at h
     ·rename_i y l hk;split at h
      ·rename_i hc;simp only[iE2]at hc;obtain⟨⟨hc1,hc2⟩,hc3⟩:=hc;have e1:=rT hc1;subst e1;obtain⟨e2,_⟩:=eV1 (t:=s) hinl ⟨rfl,fun _ _=>rfl⟩ (fun _ _=>rfl) hc3 hs hc2 hk;subst e2;refine⟨_,_,?_,h⟩;unfold TrS;rw[if_neg (by simp)];refine⟨y,rfl,fun n hn=>by simp[hn],fun n hn=>by simp[hn],fun t ht hl' K'=>?_⟩;obtain⟨_,k',hst,hk'⟩:=eV1 hinl ht.agr hl' hc3 hs hc2 hk;simp only[vM,hst,jL,if_true,Out.cps,hr',hE2,hk'];rfl
      ·refine⟨_,_,?_,h⟩;unfold TrS;rw[if_pos rfl];obtain⟨_,e2,htouch⟩:=dV1 (t:=s) hinl ⟨rfl,fun _ _=>rfl⟩ rfl hok hs hk fun _ _=>rfl
       refine⟨y,eI s1.ob l,?_,fun n hn=>?_,fun t ht hob hf K'=>?_⟩
       ·conv=>lhs;rw[e2]
        rfl
       ·simp only[xE2,not_or]at hn;exact htouch n hn.1.1.2 hn.1.2
       ·obtain⟨⟨k',hst,hk'⟩,_⟩:=dV1 hinl ht.agr hob hok hs hk fun n hn=>hf n (by
         exact hn)
        simp only[vM,hst,St.withOb,jL,if_true,Out.cps,hr',hE2,hk']
     ·cases h
    ·cases h
   | callN f x k q=>cases h
   | inl f x=>cases h
  ·cases h
 ·cases h
theorem TrS.tr {e:Ent} {s':St} (h:TrS ev inl ops o e s s') (hto:∀t,Sees ops o s t → ∀s',(∀K:St→Option R,vM E ev inl t o K=K s')→To ev inl ops o t s'):Tr ev inl ops o e s s':=by
 unfold TrS at h;unfold Tr;split at h
 ·rename_i hw;rw[if_pos hw];obtain⟨x,ob,e,h1,h2⟩:=h;exact⟨x,ob,e,h1,fun t ht hob hf=>hto t ht _ (h2 t ht hob hf)⟩
 ·rename_i hw;rw[if_neg hw];obtain⟨x,e,h0,h1,h2⟩:=h;exact⟨x,e,h0,h1,fun t ht hob=>hto t ht _ (h2 t ht hob)⟩
theorem rV1 (hinl:E.inl=[]) {K:St→Ent→Option R} {r:R} (h:opE E ev ops o s K=some r):∃s' e,Tr ev inl ops o e s s'∧K s' e=some r:=by
 unfold opE at h;split at h
 ·rename_i hg;obtain⟨s',e,h1,h2⟩:=mH1 (inl:=inl) (ops:=ops) hinl h;refine⟨s',e,h1.tr fun t _ s' hK K'=>?_,h2⟩;simp only[opsK,hg];exact hK K'
 ·rename_i j want hg;split at h
  ·rename_i g hgt;have hlook:g∈o.looksAt ops:=by unfold Oper.looksAt;refine tE2 _ ?_;rw[hg];simp[hgt]
   have skip:∀{s':St},s'=s.setd o.dst (.lf .un)→K s' ⟨false,[],s.oldNms o.dst⟩=some r→(∀t,t.get g=s.get g → ∀K':St→Option R,opsK E ev inl ops [o] t K'=K' (t.setd o.dst (.lf .un))) →
     ∃s' e,Tr ev inl ops o e s s'∧K s' e=some r:=by
    intro s' e1 h1 h2;refine⟨s',_,?_,h1⟩;unfold Tr;rw[if_neg (by simp)];exact⟨.lf .un,e1,fun n hn=>hn,fun n hn=>by simp[Slot.nms,Lf.nms]at hn,fun t ht _ K'=>h2 t (ht.get g hlook) K'⟩
   split at h
   ·rename_i hsl;refine skip rfl h fun t ht K'=>?_
    simp only[opsK,hg,hgt,ht,hsl]
   ·rename_i c hsl;have hset:∀t:St,t.get g = .lf (.v .bool c)→t.set g (.lf (.v .bool c))=t:=fun t ht=>rW1 t g _ ht
    have doit:∀{want':Bool},want=want'→(c:Bool)=want'→sR E ev s o K=some r → ∃s' e,Tr ev inl ops o e s s'∧K s' e=some r:=by
     intro want' e1 e2 h1;obtain⟨s',e,h3,h4⟩:=mH1 (inl:=inl) (ops:=ops) hinl h1;refine⟨s',e,h3.tr fun t ht s' hK K'=>?_,h4⟩;have ht':=(ht.get g hlook).trans hsl;simp only[opsK,hg,hgt,ht'];subst e1
     cases c with
     | true=>cases want with
      | true=>simp only[cond_true];rw[hset t ht'];exact hK K'
      | false=>cases e2
     | false=>cases want with
      | true=>cases e2
      | false=>simp only[cond_false];rw[hset t ht'];exact hK K'
    cases c with
    | true=>
     cases want with
     | true=>simp only[cond_true]at h;rw[hset s hsl]at h;exact doit rfl rfl h
     | false=>
      simp only[cond_true,cond_false]at h;rw[hset s hsl]at h;refine skip rfl h fun t ht K'=>?_
      have ht':=ht.trans hsl;simp only[opsK,hg,hgt,ht',cond_true,cond_false];rw[hset t ht']
    | false=>
     cases want with
     | true=>
      simp only[cond_true,cond_false]at h;rw[hset s hsl]at h;refine skip rfl h fun t ht K'=>?_
      have ht':=ht.trans hsl;simp only[opsK,hg,hgt,ht',cond_true,cond_false];rw[hset t ht']
     | false=>simp only[cond_false]at h;rw[hset s hsl]at h;exact doit rfl rfl h
   ·cases h
  ·cases h
end
end Go.GV
