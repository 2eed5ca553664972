/-
Part of the words that MeetTexts is proved with: no statement of its own, no conditions.
-/
import Derived.Test.YtegmfagkklekaaaGreatDoorFMeetTextsi
import Derived.ProofKit
import Derived.Lib.AtoiAll
import Derived.Lib.ItoaNum
import Derived.Lib.Join
import Derived.Lib.Repeat
import Derived.Lib.LaidTab
import Derived.FnData
set_option linter.unusedVariables false
set_option linter.unusedSimpArgs false
namespace Go.GV
section
variable {P : Program} {GB : Nat → Prop} {G : World → Prop}
theorem aQ {D:FnD} {w w':World} {Z:Nat→Prop} (hz:∀b,Z b→b<w.heap.size) (hbel:Go.RowKit.Below w.heap.size w w') {args:List Value} {r:(D.res.T.app D.par.inout.T).D} {v:Value} (ho:D.opt=false) (hd:D.idn=false)
  (hR:D.res.RepR w' Z (D.res.T.fst D.par.inout.T r) v []) (hI:D.par.inout.RepA w' Z (D.res.T.snd D.par.inout.T r) (D.par.io args) []):Back D w Z args [] r v w':=
 ⟨Z,[],[],⟨hbel.os,hbel.tape,hbel.output,hbel.size,fun k hk _=>hbel.block k hk⟩,fun b hb=>⟨bJ2 (hz b hb) hbel.size,fun _=>.inl hb⟩,by unfold tW;rw[if_neg (by simp[ho])];exact hR,hI,by simp,by simp,fun q=>by rw[hd]at q;cases q⟩
def decF :Nat→Nat→List UInt8
 | 0,_=>[]
 | f+1,u=>if u<10 then [UInt8.ofNat (48+u)]else decF f (u/10)++[UInt8.ofNat (48+u%10)]
theorem hG1 :∀(f u:Nat),u<10 ^ f→0<f→decF f u=Lib.decDigits u
 | 0,_,_,h=>by omega
 | f+1,u,h,_=>by
  rw[Lib.decDigits,decF];by_cases hu:u<10
  ·rw[if_pos hu,dif_pos hu]
  ·rw[if_neg hu,dif_neg hu]
   cases f with
   | zero=>simp at h;omega
   | succ f=>rw[hG1 (f+1) (u/10) (by rw[Nat.pow_succ]at h;omega) (by omega)]
def nV1 (n:Int):List UInt8:=if n<0 then 45::decF 20 n.natAbs else decF 20 n.toNat
theorem pI1 {n:Int} (h0: -9223372036854775808≤n) (h1:n≤9223372036854775807):nV1 n=Lib.itoa n:=by unfold nV1 Lib.itoa;rw[hG1 20 _ (by omega) (by decide),hG1 20 _ (by omega) (by decide)]
def jB2 (n:Int):Option (ByteArray×Unit):=bif decide (-9223372036854775808≤n)then(bif decide (n≤9223372036854775807)then some ((⟨(nV1 n).toArray⟩:ByteArray),())else none)else none
def bH1 (fid:FuncId):FnD:=
 {fid:=fid,par:=.cons (.val (.int .i64)) .nil,res:=.cons (.val .str) .nil,n:=0,rv:=[],body:=none,an:=.no,
  sem:=fun x=>jB2 x.1 }
theorem cB2 {fid:FuncId} {fn:Func} {c:Code} (h1:P.funcs[fid]?=some fn) (h2:fn.body=some c) (h3:(fn.name == "runtime.NumGoroutine")=false)
  (hs:∀(w:World) (n:Int),G w → -9223372036854775808≤n→n≤9223372036854775807→Calls P fid #[.int .i64 n] w fun e w'=>e = .returned (.string ⟨(Lib.itoa n).toArray⟩)∧Go.RowKit.Below w.heap.size w w'):
  ∀y r,(bH1 fid).sem y=some r→FnOK P GB G (bH1 fid) y r:=by
 suffices key:∀(n:Int) r,(bH1 fid).sem (n,())=some r→FnOK P GB G (bH1 fid) (n,()) r from fun⟨n,()⟩ r hr=>key n r hr
 intro n r hr;have hr:(bif decide (-9223372036854775808≤n)then(bif decide (n≤9223372036854775807)then some ((⟨(nV1 n).toArray⟩:ByteArray),())else none)else none)=some r:=hr;by_cases c1: -9223372036854775808≤n
 ·by_cases c2:n≤9223372036854775807
  ·rw[decide_eq_true c1,decide_eq_true c2]at hr;cases hr;refine .inl ⟨⟨fn,c,h1,h2,h3⟩,fun w Z args bs hg _ hz _ _ hrep=>?_⟩;obtain⟨v,vs',b1,b2,rfl,rfl,⟨cs,e1,e2,e3⟩,e4,e5⟩:=hrep;have e1:cs=[v]:=e1;have e2:cs=[Value.int .i64 n]:=e2;rw[e2]at e1;cases e1;subst e3 e4 e5;refine Calls.mono (hs w n hg c1 c2) fun e w' he=>?_
   obtain⟨rfl,hbel⟩:=he;exact⟨_,rfl,aQ hz hbel rfl rfl ⟨[_],rfl,_,[],[],[],rfl,rfl,⟨_,rfl,congrArg (fun l:List UInt8=>[Value.string ⟨l.toArray⟩]) (pI1 c1 c2).symm,rfl⟩,rfl,rfl⟩ ⟨rfl,rfl⟩⟩
  ·rw[decide_eq_true c1,decide_eq_false c2]at hr;cases hr
 ·rw[decide_eq_false c1]at hr;cases hr
def dK (s:ByteArray):Int×Bool:=
 match Lib.atoiAll s.data.toList with
 | .ok v=>(v,true)
 | .range=>(Lib.atoiSat s.data.toList,false)
 | _=>(0,false)
def dB2 (s:ByteArray):Option (Int×Bool×Unit):=bif decide (s.size≤281474976710656)then some ((dK s).1,(dK s).2,())else none
def eF1 (fid:FuncId):FnD:=
 {fid:=fid,par:=.cons (.val .str) .nil,res:=.cons (.val (.int .i64)) (.cons (.val .err) .nil),n:=0,rv:=[],body:=none,an:=.no,
  sem:=fun x=>dB2 x.1 }
theorem jZ1 {fid:FuncId} {fn:Func} {c:Code} (h1:P.funcs[fid]?=some fn) (h2:fn.body=some c) (h3:(fn.name == "runtime.NumGoroutine")=false)
  (ho:∀(w:World) (s:ByteArray) (v:Int),s.size≤9223372036854775806→Lib.atoiAll s.data.toList = .ok v→Calls P fid #[.string s] w fun e w'=>e = .returned (.tuple #[.int .i64 v,.nilIface])∧Go.RowKit.Below w.heap.size w w')
  (hy:∀(w:World) (s:ByteArray),G w→s.size≤281474976710656→(∀v,Lib.atoiAll s.data.toList ≠ .ok v)→Lib.atoiAll s.data.toList ≠ .range→Calls P fid #[.string s] w fun e w'=>(∃T u,e = .returned (.tuple #[.int .i64 0,.iface T u]))∧Go.RowKit.Below w.heap.size w w')
  (hr:∀(w:World) (s:ByteArray),G w→s.size≤281474976710656→Lib.atoiAll s.data.toList = .range→Calls P fid #[.string s] w fun e w'=>(∃T u,e = .returned (.tuple #[.int .i64 (Lib.atoiSat s.data.toList),.iface T u]))∧Go.RowKit.Below w.heap.size w w'):
  ∀y r,(eF1 fid).sem y=some r→FnOK P GB G (eF1 fid) y r:=by
 suffices key:∀(s:ByteArray) r,(eF1 fid).sem (s,())=some r→FnOK P GB G (eF1 fid) (s,()) r from fun⟨s,()⟩ r hr=>key s r hr
 intro s r hr0;have hr0:(bif decide (s.size≤281474976710656)then some ((dK s).1,(dK s).2,())else none)=some r:=hr0;by_cases c1:s.size≤281474976710656
 ·rw[decide_eq_true c1]at hr0;cases hr0;refine .inl ⟨⟨fn,c,h1,h2,h3⟩,fun w Z args bs hg _ hz _ _ hrep=>?_⟩;obtain⟨v,vs',b1,b2,rfl,rfl,⟨cs,e1,e2,e3⟩,e4,e5⟩:=hrep;have e1:cs=[v]:=e1;have e2:cs=[Value.string s]:=e2;rw[e2]at e1;cases e1;subst e3 e4 e5;have fin:∀(w':World) (n:Int) (b:Bool) (u:Value),dK s=(n,b)→((b=true∧u = .nilIface)∨(b=false ∧ ∃T x,u = .iface T x))→Go.RowKit.Below w.heap.size w w'→Back (eF1 fid) w Z [.string s] [] ((dK s).1,(dK s).2,()) (.tuple #[.int .i64 n,u]) w':=by intro w' n b u ha hu hbel;rw[ha];exact aQ hz hbel rfl rfl ⟨[.int .i64 n,u],rfl,_,_,[],[],rfl,rfl,⟨_,rfl,rfl,rfl⟩,_,[],[],[],rfl,rfl,⟨[u],rfl,⟨u,rfl,hu⟩,rfl⟩,rfl,rfl⟩ ⟨rfl,rfl⟩
  cases hA:Lib.atoiAll s.data.toList with
  | ok n=>
   refine Calls.mono (ho w s n (by omega) hA) fun e w' he=>?_
   obtain⟨rfl,hbel⟩:=he;exact⟨_,rfl,fin w' n true _ (by unfold dK;rw[hA]) (.inl ⟨rfl,rfl⟩) hbel⟩
  | range=>
   refine Calls.mono (hr w s hg c1 hA) fun e w' he=>?_
   obtain⟨⟨T,u,rfl⟩,hbel⟩:=he;exact⟨_,rfl,fin w' _ false _ (by unfold dK;rw[hA]) (.inr ⟨rfl,T,u,rfl⟩) hbel⟩
  | _=>
   refine Calls.mono (hy w s hg c1 (fun v q=>by rw[hA]at q;cases q) fun q=>by rw[hA]at q;cases q) fun e w' he=>?_
   obtain⟨⟨T,u,rfl⟩,hbel⟩:=he;exact⟨_,rfl,fin w' 0 false _ (by unfold dK;rw[hA]) (.inr ⟨rfl,T,u,rfl⟩) hbel⟩
 ·rw[decide_eq_false c1]at hr0;cases hr0
def dT (xs:List ByteArray) (sep:ByteArray):List UInt8:=Lib.join (xs.map fun x=>x.data.toList) sep.data.toList
def yA2 (xs:List ByteArray) (sep:ByteArray):Option (ByteArray×Unit):=bif decide (xs.length≤uC)then(bif decide ((dT xs sep).length≤140737488355328)then some ((⟨(dT xs sep).toArray⟩:ByteArray),())else none)else none
def fA1 (fid:FuncId) (E:TypeId):FnD:=
 {fid:=fid,par:=.cons (.val (.row E .str)) (.cons (.val .str) .nil),res:=.cons (.val .str) .nil,n:=0,rv:=[],body:=none,an:=.no,
  sem:=fun x=>yA2 x.1 x.2.1 }
theorem qB2 {fid:FuncId} {E:TypeId} {fn:Func} {c:Code} (h1:P.funcs[fid]?=some fn) (h2:fn.body=some c) (h3:(fn.name == "runtime.NumGoroutine")=false)
  (hn:∀(w:World) (a:Option Addr) (c:Nat) (sep:ByteArray),Calls P fid #[.slice a 0 c,.string sep] w fun e w'=>e = .returned (.string ⟨#[]⟩)∧w'=w)
  (hs:∀(w:World) (bk o c:Nat) (xs:List ByteArray) (sep:ByteArray),(∀(j:Nat) x,xs[j]?=some x→w.cell? ⟨bk,o+j,none⟩=some (.string x))→bk<w.heap.size→xs.length≤140737488355328→xs.length≤c→(dT xs sep).length≤140737488355328 →
   Calls P fid #[.slice (some ⟨bk,o,none⟩) xs.length c,.string sep] w fun e w'=>e = .returned (.string ⟨(dT xs sep).toArray⟩)∧Go.RowKit.Below w.heap.size w w'):
  ∀y r,(fA1 fid E).sem y=some r→FnOK P GB G (fA1 fid E) y r:=by
 suffices key:∀(xs:List ByteArray) (sep:ByteArray) r,(fA1 fid E).sem (xs,sep,())=some r→FnOK P GB G (fA1 fid E) (xs,sep,()) r from fun⟨xs,sep,()⟩ r hr=>key xs sep r hr
 intro xs sep r hr;have hr:(bif decide (xs.length≤uC)then(bif decide ((dT xs sep).length≤140737488355328)then some ((⟨(dT xs sep).toArray⟩:ByteArray),())else none)else none)=some r:=hr;by_cases c1:xs.length≤uC
 ·by_cases c2:(dT xs sep).length≤140737488355328
  ·rw[decide_eq_true c1,decide_eq_true c2]at hr;cases hr;refine .inl ⟨⟨fn,c,h1,h2,h3⟩,fun w Z args bs hg _ hz _ _ hrep=>?_⟩;obtain⟨v,vs',b1,b2,rfl,rfl,⟨cs,e1,hrow,rfl⟩,v2,vs2,b3,b4,rfl,rfl,⟨cs2,e4,e5,rfl⟩,rfl,rfl⟩:=hrep;have e1:cs=[v]:=e1;subst e1;have e4:cs2=[v2]:=e4;have e5:cs2=[Value.string sep]:=e5;rw[e5]at e4;cases e4;obtain⟨A,cap,news,e2,hcap,hl,hA⟩:=hrow;cases e2;have hl:RepL (Ty.str.Rep w Z) xs news:=hl;have hnews:news=xs.map Value.string:=by
    have:∀(xs:List ByteArray) (news:List Value),RepL (Ty.str.Rep w Z) xs news→news=xs.map Value.string:=by
     intro xs
     induction xs with
     | nil=>intro news h;exact h
     | cons x xs ih=>
      intro news h;obtain⟨a,b,rfl,ha,hb⟩:=h;have ha:a=[Value.string x]:=ha;rw[ha,ih b hb];rfl
    exact this xs news hl
   have fin:∀(w':World),Go.RowKit.Below w.heap.size w w'→Back (fA1 fid E) w Z [.slice A xs.length cap,.string sep] [] ((⟨(dT xs sep).toArray⟩:ByteArray),()) (.string ⟨(dT xs sep).toArray⟩) w':=fun w' hbel=>
    aQ hz hbel rfl rfl ⟨[_],rfl,_,[],[],[],rfl,rfl,⟨_,rfl,rfl,rfl⟩,rfl,rfl⟩ ⟨rfl,rfl⟩
   have none0:xs=[]→Calls P fid #[.slice A xs.length cap,.string sep] w fun e w'=>∃v,e = .returned v∧Back (fA1 fid E) w Z [.slice A xs.length cap,.string sep] [] ((⟨(dT xs sep).toArray⟩:ByteArray),()) v w':=by
    intro hx;subst hx;refine Calls.mono (hn w A cap sep) fun e w' he=>?_
    obtain⟨rfl,rfl⟩:=he;exact⟨_,rfl,fin _ (Go.RowKit.Below.refl _ _)⟩
   rcases hA with⟨hx,hcap0⟩ | ⟨ad,hA,_,hcell⟩
   ·exact none0 hx
   ·subst hA;by_cases hx:xs=[]
    ·exact none0 hx
    ·have h0:0<xs.length:=hK2.2 hx;have hc:∀(j:Nat) x,xs[j]?=some x→w.cell? (ad.add j)=some (.string x):=fun j x hj=>hcell j _ (by rw[hnews,mJ2,hj];rfl)
     have hc0:=hc 0 xs[0] (aI2 h0);have hb:ad.block<w.heap.size:=vU hc0;obtain⟨bk,o,sp⟩:=ad
     cases sp with
     | some q=>
      unfold World.cell? Addr.add at hc0;simp only[if_pos,Option.isSome_some,if_true]at hc0;split at hc0 <;> cases hc0
     | none=>
     have hc2:∀(j:Nat) x,xs[j]?=some x→w.cell? ⟨bk,o+j,none⟩=some (.string x):=fun j x hj=>by
      have:=hc j x hj;unfold Addr.add at this;by_cases hj0:j=0
      ·subst hj0;exact this
      ·rw[if_neg hj0]at this;exact this
     refine Calls.mono (hs w bk o cap xs sep hc2 hb (rK2 c1 (by decide)) hcap c2) fun e w' he=>?_
     obtain⟨rfl,hbel⟩:=he;exact⟨_,rfl,fin _ hbel⟩
  ·rw[decide_eq_true c1,decide_eq_false c2]at hr;cases hr
 ·rw[decide_eq_false c1]at hr;cases hr
def mB2 (s:ByteArray) (n:Int):Option (ByteArray×Unit):=bif decide (0≤n)then(bif decide (n≤1000000)then(bif decide (0<s.size)then(bif decide (s.size≤1000000)then some ((⟨(Lib.repeatL s.data.toList n.toNat).toArray⟩:ByteArray),())else none)else none)else none)else none
def kP (fid:FuncId):FnD:=
 {fid:=fid,par:=.cons (.val .str) (.cons (.val (.int .i64)) .nil),res:=.cons (.val .str) .nil,n:=0,rv:=[],body:=none,an:=.no,
  sem:=fun x=>mB2 x.1 x.2.1 }
theorem rR1 {fid:FuncId} {fn:Func} {c:Code} (h1:P.funcs[fid]?=some fn) (h2:fn.body=some c) (h3:(fn.name == "runtime.NumGoroutine")=false)
  (hm:∀(w:World) (s:ByteArray) (n:Nat),n≤1000000→0<s.size→s.size≤1000000→Calls P fid #[.string s,.int .i64 n] w fun e w'=>e = .returned (.string ⟨(Lib.repeatL s.data.toList n).toArray⟩)∧Go.RowKit.Below w.heap.size w w'):
  ∀y r,(kP fid).sem y=some r→FnOK P GB G (kP fid) y r:=by
 suffices key:∀(s:ByteArray) (n:Int) r,(kP fid).sem (s,n,())=some r→FnOK P GB G (kP fid) (s,n,()) r from fun⟨s,n,()⟩ r hr=>key s n r hr
 intro s n r hr;have hr:(bif decide (0≤n)then(bif decide (n≤1000000)then(bif decide (0<ByteArray.size s)then(bif decide (ByteArray.size s≤1000000)then some ((⟨(Lib.repeatL s.data.toList (Int.toNat n)).toArray⟩:ByteArray),())else none)else none)else none)else none)=some r:=hr;by_cases c1:0≤n
 ·by_cases c2:n≤1000000
  ·by_cases c3:0<s.size
   ·by_cases c4:s.size≤1000000
    ·rw[decide_eq_true c1,decide_eq_true c2,decide_eq_true c3,decide_eq_true c4]at hr;cases hr;refine .inl ⟨⟨fn,c,h1,h2,h3⟩,fun w Z args bs hg _ hz _ _ hrep=>?_⟩;obtain⟨v,vs',b1,b2,rfl,rfl,⟨cs,e1,e2,rfl⟩,v2,vs2,b3,b4,rfl,rfl,⟨cs2,e4,e5,rfl⟩,rfl,rfl⟩:=hrep;have e1:cs=[v]:=e1;have e2:cs=[Value.string s]:=e2;have e4:cs2=[v2]:=e4;have e5:cs2=[Value.int .i64 n]:=e5;rw[e2]at e1;rw[e5]at e4;cases e1;cases e4;obtain⟨m,rfl⟩:=wI2 c1;refine Calls.mono (hm w s m (by omega) c3 c4) fun e w' he=>?_
     obtain⟨rfl,hbel⟩:=he;exact⟨_,rfl,aQ hz hbel rfl rfl ⟨[_],rfl,_,[],[],[],rfl,rfl,⟨_,rfl,rfl,rfl⟩,rfl,rfl⟩ ⟨rfl,rfl⟩⟩
    ·rw[decide_eq_true c1,decide_eq_true c2,decide_eq_true c3,decide_eq_false c4]at hr;cases hr
   ·rw[decide_eq_true c1,decide_eq_true c2,decide_eq_false c3]at hr;cases hr
  ·rw[decide_eq_true c1,decide_eq_false c2]at hr;cases hr
 ·rw[decide_eq_false c1]at hr;cases hr
end
section
variable {P : Program} {w : World}
def vIface (w:World) (g:Nat):Prop:=∃ev,w.cell? ⟨g,0,none⟩=some ev∧(ev = .nilIface ∨ ∃te pe,ev = .iface te pe)
structure Facts (P:Program) (g2 g3:Nat) (w:World):Prop where
 tab:Lib.TabIs P w "internal/strconv.uint64pow10" .u64 Lib.pow10Tab
 syn:vIface w g2
 rng:vIface w g3
def Its (g1 g2 g3:Nat) (b:Nat):Prop:=b=g1∨b=g2∨b=g3
theorem bG1 {g1 g2 g3:Nat} (hg:P.globalNamed "internal/strconv.uint64pow10" = some g1):jK (Its g1 g2 g3) (Facts P g2 g3):=by
 intro w w' _ _ hh h;have c:∀g,w'.heap[g]?=w.heap[g]?→vIface w g→vIface w' g:=by rintro g e ⟨ev,h1,h2⟩;refine⟨ev,?_,h2⟩;unfold World.cell? at h1 ⊢;rw[e];exact h1
 refine⟨?_,c g2 (hh g2 (.inr (.inl rfl))) h.syn,c g3 (hh g3 (.inr (.inr rfl))) h.rng⟩;have:=h.tab;unfold Lib.TabIs World.var? at this ⊢;rw[hg,pH2]at this ⊢;rw[hh g1 (.inl rfl)];exact this
theorem kU1 {g1 g2 g3:Nat} (hg:P.globalNamed "internal/strconv.uint64pow10" = some g1) (h:Facts P g2 g3 w):∀b,Its g1 g2 g3 b→b<w.heap.size:=by
 rintro b (rfl | rfl | rfl)
 ·exact vU (h.tab.cell hg 0 (by decide))
 ·obtain⟨ev,h1,_⟩:=h.syn;exact vU h1
 ·obtain⟨ev,h1,_⟩:=h.rng;exact vU h1
theorem jH1 :∀{laid:List (String×DataW Unit)} {ps:List MemPlace} {i:Nat} {n:String} {d:DataW Unit},DataW.LaidVars P w laid ps→laid[i]?=some (n,d) →
  ∃g t cs fuel p,P.globalNamed n=some g∧(P.globals[g]?).map (·.type)=some t∧w.var? P n=some cs∧DataW.trod (fun _=>()) P w 0 (fun _=>true) false fuel t cs.toList=some (d,p)
 | [],ps,i,n,d,h,hi=>by simp at hi
 | (m,d')::l,ps,0,n,d,h,hi=>by simp only[lL2,Option.some.injEq,Prod.mk.injEq]at hi;obtain⟨rfl,rfl⟩:=hi;obtain⟨g,t,cs,fuel,p,q,h1,h2,h3,h4,_,_⟩:=h;exact⟨g,t,cs,fuel,p,h1,h2,h3,h4⟩
 | (m,d')::l,ps,i+1,n,d,h,hi=>by obtain⟨g,t,cs,fuel,p,q,h1,h2,h3,h4,h5,_⟩:=h;exact jH1 h5 (by simpa using hi)
def tabB (P:Program) (k:IntKind) (g:Nat):Bool:=match P.globals[g]? with
 | some v=>match P.underlying v.type with
  | some (.array n e)=>(match P.underlying e with | some (.int k')=>decide (k'=k) | _=>false)&&Nat.beq (P.cellsOf e) 1&&Nat.beq (P.cellsOf v.type) n
  | _=>false
 | none=>false
def aY1 (P:Program) (g:Nat):Bool:=match P.globals[g]? with
 | some v=>match P.underlying v.type with
  | some (.interface _)=>true
  | _=>false
 | none=>false
theorem dX1 {laid:List (String×DataW Unit)} {i g:Nat} {n:String} {k:IntKind} {zs:List Int} (h:laidMet P laid w) (hi:laid[i]?=some (n,Lib.tabData k zs)) (hg:P.globalNamed n=some g) (hb:tabB P k g=true):Lib.TabIs P w n k zs:=by
 obtain⟨ps,hl,_⟩:=h;obtain⟨g',t,cs,fuel,p,h1,h2,h3,h4⟩:=jH1 hl hi;obtain rfl:=sI2 (hg.symm.trans h1);unfold tabB at hb;split at hb
 ·rename_i v hv;rw[hv]at h2;cases h2;split at hb
  ·rename_i m e hu;simp only[sH2]at hb;obtain⟨⟨b1,b2⟩,b3⟩:=hb;split at b1
   ·rename_i k' hk;obtain rfl:=of_decide_eq_true b1;unfold Lib.TabIs;rw[h3,←Lib.cells_of_tab hu hk (eL2 b2) (eL2 b3) h4]
   ·cases b1
  ·cases hb
 ·cases hb
theorem nZ {laid:List (String×DataW Unit)} {i g:Nat} {n nm:String} {d:DataW Unit} (h:laidMet P laid w) (hi:laid[i]?=some (n,.iface nm d)) (hg:P.globalNamed n=some g) (hb:aY1 P g=true):vIface w g:=by
 obtain⟨ps,hl,_⟩:=h;obtain⟨g',t,cs,fuel,p,h1,h2,h3,h4⟩:=jH1 hl hi;obtain rfl:=sI2 (hg.symm.trans h1);unfold aY1 at hb;split at hb
 ·rename_i v hv;rw[hv]at h2;cases h2;split at hb
  ·rename_i ms hu;obtain⟨_,u,x,h5,_,_⟩:=iface_of_trod hu h4;refine⟨.iface u x,?_,.inr ⟨u,x,rfl⟩⟩;rw[World.var?_cell hg h3 0,←bK2,h5];rfl
  ·cases hb
 ·cases hb
end
end Go.GV
