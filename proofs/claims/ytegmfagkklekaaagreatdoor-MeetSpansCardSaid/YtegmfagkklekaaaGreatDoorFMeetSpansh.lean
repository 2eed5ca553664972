/-
Part of the words that MeetSpans is proved with: no statement of its own, no conditions.
-/
import Derived.Test.YtegmfagkklekaaaGreatDoorFMeetSpansg
import Derived.Lib.Bytealg
import Derived.KernelRfl
set_option linter.unusedVariables false
set_option linter.unusedSimpArgs false
namespace Go.GV
noncomputable def stD (E:Env):Ev E:=fun f x=>match h:look E.fn f with
 | none=>none
 | some D=>cast (by rw[Env.resT,h]) (D.sem (cast (by rw[Env.argT,h]) x))
noncomputable def RN (E:Env):Ev E:=evOf E (stD E) (pl E (stD E))
noncomputable def PL (E:Env):(f:Nat)→Nat→St→Option (E.resT f).D:=pl E (stD E)
def tM (P:Program) (l:List (Nat×FnD)):Prop:=∀x∈l,∀c,x.2.body=some c→CardOK P x.2 c
def xO (P:Program) (GB:Nat→Prop) (G:World→Prop) (l:List (Nat×FnD)):Prop:=∀x∈l,x.2.body=none → ∀y r,x.2.sem y=some r→FnOK P GB G x.2 y r
section
variable {P : Program} {E : Env} {GB : Nat → Prop} {G : World → Prop}
theorem qO1 :tM P []:=fun _ h=>by cases h
theorem nL1 {k:Nat} {D:FnD} {c:Code} {l:List (Nat×FnD)} (hb:D.body=some c) (h:CardOK P D c) (t:tM P l):tM P ((k,D)::l):=by
 intro x hx c' hc';rcases pE2.1 hx with rfl | hx
 ·have:c=c':=oF2 (hb.symm.trans hc');subst this;exact h
 ·exact t x hx c' hc'
theorem sG {k:Nat} {D:FnD} {l:List (Nat×FnD)} (hb:D.body=none) (t:tM P l):tM P ((k,D)::l):=by
 intro x hx c' hc';rcases pE2.1 hx with rfl | hx
 ·exact absurd (hb.symm.trans hc') (by simp)
 ·exact t x hx c' hc'
theorem kk {D:FnD} {c:Code} (fn:Func) (hf:P.funcs[D.fid]?=some fn)
  (h:(fn.body,D.body,fn.name == "runtime.NumGoroutine",fn.ntmps,fn.results.toList,Nat.ble D.par.cnt 1000,D.par.okB,Nat.ble D.par.len D.n,D.an.wf,nodupB (0::(places c D.an []).map (·.1)))=(some c,some c,false,D.n,D.rv,true,true,true,true,true)):CardOK P D c:=by
 simp only[Prod.mk.injEq]at h;obtain⟨h1,h2,h3,h4,h5,h6,h7,h8,h9,h10⟩:=h;exact⟨⟨fn,hf,h1,h3,h4,h5⟩,h2,rF2 h6,h7,rF2 h8,h9,h10⟩
theorem cc {k:Nat} {D:FnD} {c:Code} {l:List (Nat×FnD)} (h:CardOK P D c) (t:tM P l):tM P ((k,D)::l):=nL1 h.body h t
theorem cO1 :xO P GB G []:=fun _ h=>by cases h
theorem tG {k:Nat} {D:FnD} {l:List (Nat×FnD)} (h:∀y r,D.sem y=some r→FnOK P GB G D y r) (t:xO P GB G l):xO P GB G ((k,D)::l):=by
 intro x hx hc;rcases pE2.1 hx with rfl | hx
 ·exact h
 ·exact t x hx hc
theorem nR1 {l m:List (Nat×FnD)} (h:(l.filter fun x=>x.2.body.isNone)=m) (t:xO P GB G m):xO P GB G l:=by intro x hx hc;refine t x ?_ hc;rw[←h];exact zF2.2 ⟨hx,by rw[hc];rfl⟩
theorem tX1 {f:Nat} {D:FnD} {c:Code} (hD:look E.fn f=some D) (hc:D.body=some c) (x:(E.argT f).D):RN E f x=PL E f 0 (gU D (cast (by rw[Env.argT,hD]) x)):=by
 unfold RN evOf PL;split
 ·rename_i h;exact absurd (h.symm.trans hD) (by simp)
 ·rename_i D' hD';have e:D'=D:=oF2 (hD'.symm.trans hD);subst e;split
  ·rename_i h;exact absurd (h.symm.trans hc) (by simp)
  ·rfl
theorem cE2 (hinl:E.inl=[]) {f:Nat} {D:FnD} {c:Code} (hD:look E.fn f=some D) (hc:D.body=some c) (x:(E.argT f).D):RN E f x=rnd E (stD E) (PL E) f 0 (gU D (cast (by rw[Env.argT,hD]) x)):=
 (tX1 hD hc x).trans (zZ1 hinl (stD E) f 0 _)
theorem aE2 (hinl:E.inl=[]) (f i:Nat) (s:St):PL E f i s=rnd E (stD E) (PL E) f i s:=zZ1 hinl (stD E) f i s
theorem rE {P:Program} (hinl:E.inl=[]) {f:Nat} {D:FnD} {c:Code} (hD:look E.fn f=some D) (hk:CardOK P D c) {x:(E.argT f).D} {y:Option (E.resT f).D} (h:rnd E (stD E) (PL E) f 0 (gU D (cast (by rw[Env.argT,hD]) x))=y):RN E f x=y:=
 (cE2 hinl hD hk.body x).trans h
theorem pE (hinl:E.inl=[]) (f i:Nat) {s:St} {y:Option (E.resT f).D} (h:rnd E (stD E) (PL E) f i s=y):PL E f i s=y:=(aE2 hinl f i s).trans h
theorem kH1 {f:Nat} {D:FnD} (hD:look E.fn f=some D) (hc:D.body=none) (x:(E.argT f).D):RN E f x=cast (by rw[Env.resT,hD]) (D.sem (cast (by rw[Env.argT,hD]) x)):=by
 unfold RN evOf;split
 ·rename_i h;exact absurd (h.symm.trans hD) (by simp)
 ·rename_i D' hD';have e:D'=D:=oF2 (hD'.symm.trans hD);subst e;split
  ·unfold stD;split
   ·rename_i h;exact absurd (h.symm.trans hD) (by simp)
   ·rename_i D'' hD'';have e:D''=D':=oF2 (hD''.symm.trans hD);subst e;rfl
  ·rename_i c h;exact absurd (hc.symm.trans h) (by simp)
theorem kR1 {A B:Type} (h:A=B) {x:Option A} {r:B} (e:cast (congrArg Option h) x=some r):x=some (cast h.symm r):=by subst h;exact e
theorem fS {x c:ByteArray} (h:¬x=c):(x.toList==c.toList)=false:=by
 rw[Bool.eq_false_iff];intro q;have q:x.toList=c.toList:=by simpa using q
 rw[ByteArray.toList_eq,ByteArray.toList_eq]at q;exact h (ByteArray.ext (Array.ext' q))
theorem fN {c:ByteArray} {off:Nat} {l:List (ByteArray×Nat)} {x:ByteArray} (h:¬x=c):selF ((c,off)::l) x=selF l x:=by
 conv=>lhs;unfold selF
 refine if_neg fun q=>h ?_
 have q:x.toList=c.toList:=by simpa using q
 rw[ByteArray.toList_eq,ByteArray.toList_eq]at q;exact ByteArray.ext (Array.ext' q)
theorem cB1 {P:Program} {E:Env} (h:E.sels=[]):uF1 P E:=by intro f l hl;rw[h]at hl;cases hl
theorem xW1 {P:Program} {E:Env} {f0:FuncId} {l0:List (ByteArray×Nat)} (h:E.sels=[(f0,l0)]) (hf:∃fn c,P.funcs[f0]?=some fn∧fn.body=some c∧(fn.name == "runtime.NumGoroutine")=false)
  (hc:∀(g:Nat) (x:ByteArray) (w:World),Calls P f0 #[.pointer (some ⟨g,0,none⟩),.string x] w fun e w'=>e = .returned (selV g (selF l0 x))∧w'=w):uF1 P E:=by
 intro f l hl;rw[h]at hl;unfold look at hl;split at hl
 ·rename_i hq;have hq:=sH2 hq;subst hq;cases hl;exact⟨hf,hc⟩
 ·cases hl
theorem fA2 (henv:kF P E=true) (hsel:uF1 P E) (hmix:P.follows .mixedOrders=true) (hinl:E.inl=[]) (hcards:tM P E.fn) (hst:fL GB G) (hstubs:xO P GB G E.fn) {f:Nat} {D:FnD} {c:Code} (hD:look E.fn f=some D) (hc:D.body=some c)
  {x:D.par.T.D} {r:(D.res.T.app D.par.inout.T).D} (h:RN E f (cast (by rw[Env.argT,hD]) x)=some (cast (by rw[Env.resT,hD]) r)):FnB P GB G D x r:=by
 refine oU1 (st:=stD E) henv hsel hinl hmix hst (fun f D c hD hc=>hcards (f,D) (lK hD) c hc) (fun f D hD hb x r hr=>?_) hD hc ?_
 ·unfold stD at hr;split at hr
  ·cases hr
  ·rename_i D' hD';have e:D'=D:=oF2 (hD'.symm.trans hD);subst e;exact hstubs (f,D') (lK hD) hb _ _ (kR1 (by rw[Env.resT,hD]) hr)
 ·rw[tX1 hD hc]at h;unfold PL at h;simpa using h
theorem bD (hinl:E.inl=[]) {f:Nat} {D:FnD} {c:Code} (hD:look E.fn f=some D) (hc:D.body=some c) (x:(E.argT f).D) (n:Nat) {r:(E.resT f).D} (h:rn E (stD E) n f 0 (gU D (cast (by rw[Env.argT,hD]) x))=some r):RN E f x=some r:=
 (tX1 hD hc x).trans ((aR hinl).2 ⟨n,h⟩)
end
def fK (fid:FuncId):FnD:=
 {fid:=fid,par:=.cons (.val .str) (.cons (.val (.int .u8)) .nil),res:=.cons (.val (.int .i64)) .nil,n:=0,rv:=[],body:=none,an:=.no,sem:=fun x=>some (Lib.indexByte (ByteArray.data x.1).toList (Int.toNat x.2.1).toUInt8,()) }
def rN (fid:FuncId):FnD:=
 {fid:=fid,par:=.cons (.val .str) (.cons (.val (.int .u8)) .nil),res:=.cons (.val (.int .i64)) .nil,n:=0,rv:=[],body:=none,an:=.no,sem:=fun x=>some (((Lib.countByte (ByteArray.data x.1).toList (Int.toNat x.2.1).toUInt8:Nat):Int),()) }
section
variable {P : Program} {GB : Nat → Prop} {G : World → Prop}
theorem dS {w:World} {Z:Nat→Prop} {x:ByteArray×Int×Unit} {args:List Value} {bs:List Nat} (h:Shs.RepA w Z (.cons (.val .str) (.cons (.val (.int .u8)) .nil)) x args bs):args=[.string x.1,.int .u8 x.2.1]∧bs=[]:=by obtain⟨v,vs',c,d,e1,e2,⟨cs,h1,h2,h3⟩,v',vs'',c',d',e3,e4,⟨cs',h4,h5,h6⟩,h7,h8⟩:=h;simp only[Sh.agg,pF2,if_false]at h1 h4;have h2':cs=[Value.string x.1]:=h2;have h5':cs'=[Value.int .u8 x.2.1]:=h5;subst h3 h6 h7 h8 e3 e4 e1 e2;rw[h2']at h1;rw[h5']at h4;cases h1;cases h4;exact⟨rfl,rfl⟩
theorem pH1 {D:FnD} {w:World} {Z:Nat→Prop} (hz:∀b,Z b→b<w.heap.size) {args:List Value} {n:Int} {k:IntKind} {r:(D.res.T.app D.par.inout.T).D} {v:Value} (ho:D.opt=false) (hd:D.idn=false) (hR:D.res.RepR w Z (D.res.T.fst D.par.inout.T r) v [])
  (hI:D.par.inout.RepA w Z (D.res.T.snd D.par.inout.T r) (D.par.io args) []):Back D w Z args [] r v w:=
 ⟨Z,[],[],Frm.refl _ _,fun b hb=>⟨hz b hb,fun _=>.inl hb⟩,by unfold dV;rw[if_neg (by simp[ho])];exact hR,hI,by simp,by simp,fun q=>by rw[hd]at q;cases q⟩
theorem jQ {fid:FuncId} {fn:Func} (h1:P.funcs[fid]?=some fn) (h2:∀s c w,(callFunc fid #[.string s,.int .u8 c]).run P w = .ok (.value (.int .i64 (Lib.indexByte s.data.toList c.toNat.toUInt8))) w):
  ∀y r,(fK fid).sem y=some r→FnOK P GB G (fK fid) y r:=by
 intro y r hr;cases hr;refine .inr fun w Z args bs _ _ hz _ _ hrep=>?_
 obtain⟨rfl,rfl⟩:=dS hrep;exact⟨_,w,h2 _ _ w,pH1 (n:=0) (k:=.i64) hz rfl rfl ⟨[_],rfl,⟨_,[],[],[],rfl,rfl,⟨_,rfl,rfl,rfl⟩,rfl,rfl⟩⟩ ⟨rfl,rfl⟩⟩
theorem wW {fid:FuncId} {fn:Func} (h1:P.funcs[fid]?=some fn) (h2:∀s c w,(callFunc fid #[.string s,.int .u8 c]).run P w = .ok (.value (.int .i64 (Lib.countByte s.data.toList c.toNat.toUInt8))) w):
  ∀y r,(rN fid).sem y=some r→FnOK P GB G (rN fid) y r:=by
 intro y r hr;cases hr;refine .inr fun w Z args bs _ _ hz _ _ hrep=>?_
 obtain⟨rfl,rfl⟩:=dS hrep;exact⟨_,w,h2 _ _ w,pH1 (n:=0) (k:=.i64) hz rfl rfl ⟨[_],rfl,⟨_,[],[],[],rfl,rfl,⟨_,rfl,rfl,rfl⟩,rfl,rfl⟩⟩ ⟨rfl,rfl⟩⟩
def aV (fid:FuncId) (E:TypeId) (t:Ty):FnD:=
 {fid:=fid,par:=.cons (.val (.row E t)) .nil,res:=.cons (.own E t) .nil,n:=0,rv:=[],body:=none,an:=.no,sem:=fun x=>bif decide (List.length (α:=t.D) x.1≤eD)then some (x.1,())else none }
theorem dJ1 {fid:FuncId} {E:TypeId} {t:Ty} {fn:Func} {c:Code} (h1:P.funcs[fid]?=some fn) (h2:fn.body=some c) (h3:(fn.name == "runtime.NumGoroutine")=false)
  (hs:∀(w:World) (ad:Addr) (m cp:Nat) (news:List Value),news.length=m*t.sz→m≤eD→(∀j u,news[j]?=some u→w.cell? (ad.add j)=some u)→(∀u∈news,u.oneCell'=true) →
   Calls P fid #[.slice (some ad) m cp] w fun e w'=>∃v',e = .returned v'∧w'.ownsRow w.heap.size E t.sz v' m news∧Go.RowKit.Below w.heap.size w w')
  (hn:∀w:World,Calls P fid #[.slice none 0 0] w fun e w'=>e = .returned (.slice none 0 0)∧w'=w):
  ∀y r,(aV fid E t).sem y=some r→FnOK P GB G (aV fid E t) y r:=by
 intro y r hr;obtain⟨xs,u⟩:=y;cases u;have hr:(bif decide (List.length (α:=t.D) xs≤eD)then some ((xs,()):List t.D×Unit)else none)=some r:=hr;have hlim:List.length (α:=t.D) xs≤eD:=by
  by_cases hx:List.length (α:=t.D) xs≤eD
  ·exact hx
  ·rw[decide_eq_false hx]at hr;cases hr
 rw[decide_eq_true hlim]at hr;cases hr;refine .inl ⟨⟨fn,c,h1,h2,h3⟩,fun w Z args bs _ _ hz _ _ hrep=>?_⟩;obtain⟨v,vs',c1,d1,rfl,rfl,⟨cs,e1,hrep,rfl⟩,rfl,rfl⟩:=hrep;have e1:cs=[v]:=e1;subst e1;obtain⟨A,cap,news,e2,hcap,hl,hA⟩:=hrep;cases e2;have hnl:=RepL.length (fun _ _ h=>Ty.Rep.length h) hl;have fin:∀(w':World) (v':Value),w'.ownsRow w.heap.size E t.sz v' (List.length (α:=t.D) xs) news→Go.RowKit.Below w.heap.size w w'→Back (aV fid E t) w Z [.slice A (List.length (α:=t.D) xs) cap] [] ((xs,()):List t.D×Unit) v' w':=by
  intro w' v' how hbel;have hst:Stay w w' Z Z:=Stay.of_block fun k hk=>⟨hk,hbel.block k (hz k hk)⟩
  have hown0:w'.ownsRow 0 E t.sz v' (List.length (α:=t.D) xs) news:=by refine⟨how.1,how.2.imp id ?_⟩;rintro⟨g,cp,cur,h1,_,h2⟩;exact⟨g,cp,cur,h1,kE2 _,h2⟩
  have hblk:∀b,blkV v'=some b→w.heap.size≤b:=by
   intro b hb;rcases how.2 with⟨e,_⟩ | ⟨g,cp,cur,e,hg,_⟩
   ·rw[e]at hb;cases hb
   ·rw[e]at hb;cases hb;exact hg
  refine⟨Z,(blkV v').toList,[],⟨hbel.os,hbel.tape,hbel.output,hbel.size,fun k hk _=>hbel.block k hk⟩,fun b hb=>⟨uF2 (hz b hb) hbel.size,fun _=>.inl hb⟩,?_,⟨rfl,rfl⟩,?_,?_,fun q=>by cases q⟩
  ·unfold dV;rw[if_neg (by simp[aV])];exact⟨[v'],rfl,v',[],_,[],rfl,(zE2 _).symm,⟨[v'],rfl,v',news,rfl,hown0,RepL.imp (fun _ _ h=>Ty.Rep.stay hst h) hl,rfl⟩,rfl,rfl⟩
  ·cases blkV v' <;> simp
  ·intro b hb;have hb':blkV v'=some b:=by simpa using hb
   have:=hblk b hb';exact⟨fun hzb=>by have:=hz b hzb;omega,fun hlt=>by omega⟩
 have hone:∀u∈news,u.oneCell'=true:=RepL.all (fun _ _ h=>Ty.Rep.one h) hl
 have key:∀ad,A=some ad→(∀j u,news[j]?=some u→w.cell? (ad.add j)=some u)→Calls P fid #[.slice A (List.length (α:=t.D) xs) cap] w fun e w'=>∃v,e = .returned v∧Back (aV fid E t) w Z [.slice A (List.length (α:=t.D) xs) cap] [] ((xs,()):List t.D×Unit) v w':=by
  rintro ad rfl hcell;refine Calls.mono (hs w ad _ cap news hnl hlim hcell hone) fun e w' he=>?_
  obtain⟨v',rfl,how,hbel⟩:=he;exact⟨v',rfl,fin w' v' how hbel⟩
 rcases hA with⟨hx,hcap0⟩ | ⟨ad,hA,_,hcell⟩
 ·have hx:xs=([]:List t.D):=hx;subst hx;have hnews:news=[]:=aF2 (by simpa using hnl);subst hnews
  cases A with
  | none=>
   have:=hcap0 rfl;subst this;refine Calls.mono (hn w) fun e w' he=>?_
   obtain⟨rfl,rfl⟩:=he;exact⟨_,rfl,fin _ _ (World.ownsRow_nil _ _ _ _) (Go.RowKit.Below.refl _ _)⟩
  | some ad=>exact key ad rfl (fun j u hj=>by simp at hj)
 ·exact key ad hA hcell
end
abbrev w6 (x:Int):Int:=IntKind.i64.wrap x
abbrev fD (i:FuncId) (p r:Shs) (n:Nat) (v:List ResultVar) (f:Func) (a:Ann):FnD:={ fid:=i,par:=p,res:=r,n:=n,rv:=v,body:=f.body,an:=a }
abbrev kC (P:Program) (D:FnD) (f:Func):Prop:=CardOK P D (f.body.getD .skip)
abbrev wI (x:Int):Slot:=.lf (.v (.int .i64) x)
abbrev wB (x:Bool):Slot:=.lf (.v .bool x)
abbrev wP (a b:Nat):Slot:=.lf (.p a b)
abbrev vI (x:Int):Lf:=.v (.int .i64) x
abbrev sI :Sh:=.val (.int .i64)
abbrev sB :Sh:=.val .bool
abbrev sS :Sh:=.val .str
abbrev nx (a:Ann):Ann:=.two .no a
section
variable {P : Program} {E : Env}
theorem rS {f:Nat} {D:FnD} {c:Code} {x:(E.argT f).D} {y:Option (E.resT f).D} (hk:CardOK P D c) (hinl:E.inl=[]:=by rfl) (hD:look E.fn f=some D:=by kernel_rfl) (h:rnd E (stD E) (PL E) f 0 (gU D (cast (by rw[Env.argT,hD]) x))=y:=by kernel_rfl):RN E f x=y:=rE hinl hD hk h
theorem pS (f i:Nat) {s:St} {y:Option (E.resT f).D} (hinl:E.inl=[]:=by rfl) (h:rnd E (stD E) (PL E) f i s=y:=by kernel_rfl):PL E f i s=y:=pE hinl f i h
theorem kS {D:FnD} {c:Code} {fn:Func} (hf:P.funcs[D.fid]?=some fn)
  (h:(fn.body,D.body,fn.name == "runtime.NumGoroutine",fn.ntmps,fn.results.toList,Nat.ble D.par.cnt 1000,D.par.okB,Nat.ble D.par.len D.n,D.an.wf,nodupB (0::(places c D.an []).map (·.1)))=(some c,some c,false,D.n,D.rv,true,true,true,true,true):=by kernel_rfl):CardOK P D c:=kk fn hf h
end
end Go.GV
