/-
Part of the words that MeetSpans is proved with: no statement of its own, no conditions.
-/
import Derived.Test.YtegmfagkklekaaaGreatDoorFMeetSpansi
import Derived.ProofKit
import Derived.Lib.AtoiAll
import Derived.Lib.ItoaNum
import Derived.Lib.Join
import Derived.Lib.Repeat
import Derived.Lib.LaidTab
import Derived.FnData
set_option linter.unusedVariables false
set_option linter.unusedSimpArgs false
namespace Go.GV
section
variable {P : Program} {GB : Nat → Prop} {G : World → Prop}
theorem cE1 {D:FnD} {w w':World} {Z:Nat→Prop} (hz:∀b,Z b→b<w.heap.size) (hbel:Go.RowKit.Below w.heap.size w w') {args:List Value} {r:(D.res.T.app D.par.inout.T).D} {v:Value} (ho:D.opt=false) (hd:D.idn=false)
  (hR:D.res.RepR w' Z (D.res.T.fst D.par.inout.T r) v []) (hI:D.par.inout.RepA w' Z (D.res.T.snd D.par.inout.T r) (D.par.io args) []):Back D w Z args [] r v w':=
 ⟨Z,[],[],⟨hbel.os,hbel.tape,hbel.output,hbel.size,fun k hk _=>hbel.block k hk⟩,fun b hb=>⟨uF2 (hz b hb) hbel.size,fun _=>.inl hb⟩,by unfold dV;rw[if_neg (by simp[ho])];exact hR,hI,by simp,by simp,fun q=>by rw[hd]at q;cases q⟩
def decF :Nat→Nat→List UInt8
 | 0,_=>[]
 | f+1,u=>if u<10 then [UInt8.ofNat (48+u)]else decF f (u/10)++[UInt8.ofNat (48+u%10)]
theorem dG1 :∀(f u:Nat),u<10 ^ f→0<f→decF f u=Lib.decDigits u
 | 0,_,_,h=>by omega
 | f+1,u,h,_=>by
  rw[Lib.decDigits,decF];by_cases hu:u<10
  ·rw[if_pos hu,dif_pos hu]
  ·rw[if_neg hu,dif_neg hu]
   cases f with
   | zero=>simp at h;omega
   | succ f=>rw[dG1 (f+1) (u/10) (by rw[Nat.pow_succ]at h;omega) (by omega)]
def pT1 (n:Int):List UInt8:=if n<0 then 45::decF 20 n.natAbs else decF 20 n.toNat
theorem uT1 {n:Int} (h0: -9223372036854775808≤n) (h1:n≤9223372036854775807):pT1 n=Lib.itoa n:=by unfold pT1 Lib.itoa;rw[dG1 20 _ (by omega) (by decide),dG1 20 _ (by omega) (by decide)]
def kD2 (n:Int):Option (ByteArray×Unit):=bif decide (-9223372036854775808≤n)then(bif decide (n≤9223372036854775807)then some ((⟨(pT1 n).toArray⟩:ByteArray),())else none)else none
def eF1 (fid:FuncId):FnD:=
 {fid:=fid,par:=.cons (.val (.int .i64)) .nil,res:=.cons (.val .str) .nil,n:=0,rv:=[],body:=none,an:=.no,
  sem:=fun x=>kD2 x.1 }
theorem gZ1 {fid:FuncId} {fn:Func} {c:Code} (h1:P.funcs[fid]?=some fn) (h2:fn.body=some c) (h3:(fn.name == "runtime.NumGoroutine")=false)
  (hs:∀(w:World) (n:Int),G w → -9223372036854775808≤n→n≤9223372036854775807→Calls P fid #[.int .i64 n] w fun e w'=>e = .returned (.string ⟨(Lib.itoa n).toArray⟩)∧Go.RowKit.Below w.heap.size w w'):
  ∀y r,(eF1 fid).sem y=some r→FnOK P GB G (eF1 fid) y r:=by
 suffices key:∀(n:Int) r,(eF1 fid).sem (n,())=some r→FnOK P GB G (eF1 fid) (n,()) r from fun⟨n,()⟩ r hr=>key n r hr
 intro n r hr;have hr:(bif decide (-9223372036854775808≤n)then(bif decide (n≤9223372036854775807)then some ((⟨(pT1 n).toArray⟩:ByteArray),())else none)else none)=some r:=hr;by_cases c1: -9223372036854775808≤n
 ·by_cases c2:n≤9223372036854775807
  ·rw[decide_eq_true c1,decide_eq_true c2]at hr;cases hr;refine .inl ⟨⟨fn,c,h1,h2,h3⟩,fun w Z args bs hg _ hz _ _ hrep=>?_⟩;obtain⟨v,vs',b1,b2,rfl,rfl,⟨cs,e1,e2,e3⟩,e4,e5⟩:=hrep;have e1:cs=[v]:=e1;have e2:cs=[Value.int .i64 n]:=e2;rw[e2]at e1;cases e1;subst e3 e4 e5;refine Calls.mono (hs w n hg c1 c2) fun e w' he=>?_
   obtain⟨rfl,hbel⟩:=he;exact⟨_,rfl,cE1 hz hbel rfl rfl ⟨[_],rfl,_,[],[],[],rfl,rfl,⟨_,rfl,congrArg (fun l:List UInt8=>[Value.string ⟨l.toArray⟩]) (uT1 c1 c2).symm,rfl⟩,rfl,rfl⟩ ⟨rfl,rfl⟩⟩
  ·rw[decide_eq_true c1,decide_eq_false c2]at hr;cases hr
 ·rw[decide_eq_false c1]at hr;cases hr
def xW (s:ByteArray):Int×Bool:=
 match Lib.atoiAll s.data.toList with
 | .ok v=>(v,true)
 | .range=>(Lib.atoiSat s.data.toList,false)
 | _=>(0,false)
def yC2 (s:ByteArray):Option (Int×Bool×Unit):=bif decide (s.size≤281474976710656)then some ((xW s).1,(xW s).2,())else none
def oC1 (fid:FuncId):FnD:=
 {fid:=fid,par:=.cons (.val .str) .nil,res:=.cons (.val (.int .i64)) (.cons (.val .err) .nil),n:=0,rv:=[],body:=none,an:=.no,
  sem:=fun x=>yC2 x.1 }
theorem kW1 {fid:FuncId} {fn:Func} {c:Code} (h1:P.funcs[fid]?=some fn) (h2:fn.body=some c) (h3:(fn.name == "runtime.NumGoroutine")=false)
  (ho:∀(w:World) (s:ByteArray) (v:Int),s.size≤9223372036854775806→Lib.atoiAll s.data.toList = .ok v→Calls P fid #[.string s] w fun e w'=>e = .returned (.tuple #[.int .i64 v,.nilIface])∧Go.RowKit.Below w.heap.size w w')
  (hy:∀(w:World) (s:ByteArray),G w→s.size≤281474976710656→(∀v,Lib.atoiAll s.data.toList ≠ .ok v)→Lib.atoiAll s.data.toList ≠ .range→Calls P fid #[.string s] w fun e w'=>(∃T u,e = .returned (.tuple #[.int .i64 0,.iface T u]))∧Go.RowKit.Below w.heap.size w w')
  (hr:∀(w:World) (s:ByteArray),G w→s.size≤281474976710656→Lib.atoiAll s.data.toList = .range→Calls P fid #[.string s] w fun e w'=>(∃T u,e = .returned (.tuple #[.int .i64 (Lib.atoiSat s.data.toList),.iface T u]))∧Go.RowKit.Below w.heap.size w w'):
  ∀y r,(oC1 fid).sem y=some r→FnOK P GB G (oC1 fid) y r:=by
 suffices key:∀(s:ByteArray) r,(oC1 fid).sem (s,())=some r→FnOK P GB G (oC1 fid) (s,()) r from fun⟨s,()⟩ r hr=>key s r hr
 intro s r hr0;have hr0:(bif decide (s.size≤281474976710656)then some ((xW s).1,(xW s).2,())else none)=some r:=hr0;by_cases c1:s.size≤281474976710656
 ·rw[decide_eq_true c1]at hr0;cases hr0;refine .inl ⟨⟨fn,c,h1,h2,h3⟩,fun w Z args bs hg _ hz _ _ hrep=>?_⟩;obtain⟨v,vs',b1,b2,rfl,rfl,⟨cs,e1,e2,e3⟩,e4,e5⟩:=hrep;have e1:cs=[v]:=e1;have e2:cs=[Value.string s]:=e2;rw[e2]at e1;cases e1;subst e3 e4 e5;have fin:∀(w':World) (n:Int) (b:Bool) (u:Value),xW s=(n,b)→((b=true∧u = .nilIface)∨(b=false ∧ ∃T x,u = .iface T x))→Go.RowKit.Below w.heap.size w w'→Back (oC1 fid) w Z [.string s] [] ((xW s).1,(xW s).2,()) (.tuple #[.int .i64 n,u]) w':=by intro w' n b u ha hu hbel;rw[ha];exact cE1 hz hbel rfl rfl ⟨[.int .i64 n,u],rfl,_,_,[],[],rfl,rfl,⟨_,rfl,rfl,rfl⟩,_,[],[],[],rfl,rfl,⟨[u],rfl,⟨u,rfl,hu⟩,rfl⟩,rfl,rfl⟩ ⟨rfl,rfl⟩
  cases hA:Lib.atoiAll s.data.toList with
  | ok n=>
   refine Calls.mono (ho w s n (by omega) hA) fun e w' he=>?_
   obtain⟨rfl,hbel⟩:=he;exact⟨_,rfl,fin w' n true _ (by unfold xW;rw[hA]) (.inl ⟨rfl,rfl⟩) hbel⟩
  | range=>
   refine Calls.mono (hr w s hg c1 hA) fun e w' he=>?_
   obtain⟨⟨T,u,rfl⟩,hbel⟩:=he;exact⟨_,rfl,fin w' _ false _ (by unfold xW;rw[hA]) (.inr ⟨rfl,T,u,rfl⟩) hbel⟩
  | _=>
   refine Calls.mono (hy w s hg c1 (fun v q=>by rw[hA]at q;cases q) fun q=>by rw[hA]at q;cases q) fun e w' he=>?_
   obtain⟨⟨T,u,rfl⟩,hbel⟩:=he;exact⟨_,rfl,fin w' 0 false _ (by unfold xW;rw[hA]) (.inr ⟨rfl,T,u,rfl⟩) hbel⟩
 ·rw[decide_eq_false c1]at hr0;cases hr0
end
section
variable {P : Program} {w : World}
def vIface (w:World) (g:Nat):Prop:=∃ev,w.cell? ⟨g,0,none⟩=some ev∧(ev = .nilIface ∨ ∃te pe,ev = .iface te pe)
structure Facts (P:Program) (g2 g3:Nat) (w:World):Prop where
 tab:Lib.TabIs P w "internal/strconv.uint64pow10" .u64 Lib.pow10Tab
 syn:vIface w g2
 rng:vIface w g3
def Its (g1 g2 g3:Nat) (b:Nat):Prop:=b=g1∨b=g2∨b=g3
theorem iD1 {g1 g2 g3:Nat} (hg:P.globalNamed "internal/strconv.uint64pow10" = some g1):fL (Its g1 g2 g3) (Facts P g2 g3):=by
 intro w w' _ _ hh h;have c:∀g,w'.heap[g]?=w.heap[g]?→vIface w g→vIface w' g:=by rintro g e ⟨ev,h1,h2⟩;refine⟨ev,?_,h2⟩;unfold World.cell? at h1 ⊢;rw[e];exact h1
 refine⟨?_,c g2 (hh g2 (.inr (.inl rfl))) h.syn,c g3 (hh g3 (.inr (.inr rfl))) h.rng⟩;have:=h.tab;unfold Lib.TabIs World.var? at this ⊢;rw[hg,hE2]at this ⊢;rw[hh g1 (.inl rfl)];exact this
theorem eS1 {g1 g2 g3:Nat} (hg:P.globalNamed "internal/strconv.uint64pow10" = some g1) (h:Facts P g2 g3 w):∀b,Its g1 g2 g3 b→b<w.heap.size:=by
 rintro b (rfl | rfl | rfl)
 ·exact uZ (h.tab.cell hg 0 (by decide))
 ·obtain⟨ev,h1,_⟩:=h.syn;exact uZ h1
 ·obtain⟨ev,h1,_⟩:=h.rng;exact uZ h1
theorem gG1 :∀{laid:List (String×DataW Unit)} {ps:List MemPlace} {i:Nat} {n:String} {d:DataW Unit},DataW.LaidVars P w laid ps→laid[i]?=some (n,d) →
  ∃g t cs fuel p,P.globalNamed n=some g∧(P.globals[g]?).map (·.type)=some t∧w.var? P n=some cs∧DataW.trod (fun _=>()) P w 0 (fun _=>true) false fuel t cs.toList=some (d,p)
 | [],ps,i,n,d,h,hi=>by simp at hi
 | (m,d')::l,ps,0,n,d,h,hi=>by simp only[bI2,Option.some.injEq,Prod.mk.injEq]at hi;obtain⟨rfl,rfl⟩:=hi;obtain⟨g,t,cs,fuel,p,q,h1,h2,h3,h4,_,_⟩:=h;exact⟨g,t,cs,fuel,p,h1,h2,h3,h4⟩
 | (m,d')::l,ps,i+1,n,d,h,hi=>by obtain⟨g,t,cs,fuel,p,q,h1,h2,h3,h4,h5,_⟩:=h;exact gG1 h5 (by simpa using hi)
def tabB (P:Program) (k:IntKind) (g:Nat):Bool:=match P.globals[g]? with
 | some v=>match P.underlying v.type with
  | some (.array n e)=>(match P.underlying e with | some (.int k')=>decide (k'=k) | _=>false)&&Nat.beq (P.cellsOf e) 1&&Nat.beq (P.cellsOf v.type) n
  | _=>false
 | none=>false
def yV1 (P:Program) (g:Nat):Bool:=match P.globals[g]? with
 | some v=>match P.underlying v.type with
  | some (.interface _)=>true
  | _=>false
 | none=>false
theorem sS1 {laid:List (String×DataW Unit)} {i g:Nat} {n:String} {k:IntKind} {zs:List Int} (h:laidMet P laid w) (hi:laid[i]?=some (n,Lib.tabData k zs)) (hg:P.globalNamed n=some g) (hb:tabB P k g=true):Lib.TabIs P w n k zs:=by
 obtain⟨ps,hl,_⟩:=h;obtain⟨g',t,cs,fuel,p,h1,h2,h3,h4⟩:=gG1 hl hi;obtain rfl:=oF2 (hg.symm.trans h1);unfold tabB at hb;split at hb
 ·rename_i v hv;rw[hv]at h2;cases h2;split at hb
  ·rename_i m e hu;simp only[iE2]at hb;obtain⟨⟨b1,b2⟩,b3⟩:=hb;split at b1
   ·rename_i k' hk;obtain rfl:=of_decide_eq_true b1;unfold Lib.TabIs;rw[h3,←Lib.cells_of_tab hu hk (sH2 b2) (sH2 b3) h4]
   ·cases b1
  ·cases hb
 ·cases hb
theorem kY {laid:List (String×DataW Unit)} {i g:Nat} {n nm:String} {d:DataW Unit} (h:laidMet P laid w) (hi:laid[i]?=some (n,.iface nm d)) (hg:P.globalNamed n=some g) (hb:yV1 P g=true):vIface w g:=by
 obtain⟨ps,hl,_⟩:=h;obtain⟨g',t,cs,fuel,p,h1,h2,h3,h4⟩:=gG1 hl hi;obtain rfl:=oF2 (hg.symm.trans h1);unfold yV1 at hb;split at hb
 ·rename_i v hv;rw[hv]at h2;cases h2;split at hb
  ·rename_i ms hu;obtain⟨_,u,x,h5,_,_⟩:=iface_of_trod hu h4;refine⟨.iface u x,?_,.inr ⟨u,x,rfl⟩⟩;rw[World.var?_cell hg h3 0,←tG2,h5];rfl
  ·cases hb
 ·cases hb
end
end Go.GV
