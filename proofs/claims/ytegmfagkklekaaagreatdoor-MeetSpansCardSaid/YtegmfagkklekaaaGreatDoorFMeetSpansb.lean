/-
Part of the words that MeetSpans is proved with: no statement of its own, no conditions.
-/
import Derived.Test.YtegmfagkklekaaaGreatDoorFMeetSpansa
import Derived.Laws.StructEq
set_option linter.unusedVariables false
set_option linter.unusedSimpArgs false
namespace Go.GV
section
variable {P : Program} {E : Env} {w0 w : World} {M Z0 Z : Nat → Prop} {γ : Nat → Value}
theorem pR1 {ob:List (Nat×Ob)} {v:Value} {y:Slot} (h:sU1 v=some y):SlotOK w Z γ ob y v:=by unfold sU1 at h;split at h <;> cases h <;> first | rfl | skip
theorem SlotsOK.get {ob:List (Nat×Ob)} {sl:List Slot} {tm:Array Value} (hs:SlotsOK w Z γ ob sl tm) (i:Nat):SlotOK w Z γ ob (sl.getD i (.lf .u)) (tm.getD i undef):=hs.ok i
theorem gG {s:St} {a:Act} {x:Operand} {y:Slot} (h:s.opnd x=some y) (hs:SlotsOK w Z γ s.ob s.sl a.tmps):SlotOK w Z γ s.ob y (a.eval x):=by
 cases x with
 | tmp t=>simp only[St.opnd,St.get_def]at h;cases h;exact hs.ok t
 | const v=>exact pR1 h
 | func f=>
  simp only[St.opnd,St.get_def]at h;split at h
  ·rename_i hf;cases h;exact⟨(tF1 hf []).symm,.inl hf,by simp⟩
  ·cases h
 | global g=>cases h
theorem wE {s:St} {a:Act} {x:Operand} {c:Lf} (h:s.opnd x=some (.lf c)) (hs:SlotsOK w Z γ s.ob s.sl a.tmps):LfOK w Z γ c (a.eval x):=gG h hs
theorem bN {s:St} {a:Act} {x:Operand} {k:IntKind} {n:Int} (h:s.opnd x=some (.lf (.v (.int k) n))) (hs:SlotsOK w Z γ s.ob s.sl a.tmps):a.eval x = .int k n:=by have:=wE h hs;simpa only[LfOK,Ty.Rep,List.cons.injEq,and_true]using this
theorem xP {s:St} {a:Act} {x:Operand} {b:Bool} (h:s.opnd x=some (.lf (.v .bool b))) (hs:SlotsOK w Z γ s.ob s.sl a.tmps):a.eval x = .bool b:=by have:=wE h hs;simpa only[LfOK,Ty.Rep,List.cons.injEq,and_true]using this
theorem oT {s:St} {a:Act} {x:Operand} {b:ByteArray} (h:s.opnd x=some (.lf (.v .str b))) (hs:SlotsOK w Z γ s.ob s.sl a.tmps):a.eval x = .string b:=by have:=wE h hs;simpa only[LfOK,Ty.Rep,List.cons.injEq,and_true]using this
def Does (P:Program) (w0:World) (M Z0:Nat→Prop) (w:World) (γ:Nat→Value) (a:Act) (o:Oper) (s1:St) (x:Slot) (ob':List (Nat×Ob)):Prop:=
 ∃v w' Z' γ',((execOp a.eval o).run P w = .ok (.value v) w'∨((execOp a.eval o).run P w = .ok .skip w'∧v=undef)) ∧
  Inv w0 M Z0 w' Z' γ' ob'∧SlotOK w' Z' γ' ob' x v∧SlotsOK w' Z' γ' ob' s1.sl a.tmps∧(1000≤s1.b → ∀n,n<1000→γ' n=γ n)
theorem Does.pure {s:St} {a:Act} {o:Oper} {x:Slot} (v:Value) (hi:Inv w0 M Z0 w Z γ s.ob) (hs:SlotsOK w Z γ s.ob s.sl a.tmps)
  (hr:(execOp a.eval o).run P w = .ok (.value v) w) (hx:SlotOK w Z γ s.ob x v):Does P w0 M Z0 w γ a o s x s.ob:=⟨v,w,Z,γ,.inl hr,hi,hx,hs,fun _ _ _=>rfl⟩
theorem rF {op:BinOp} {T:TypeId} {x y:Operand} {u v:Value} (h:(u = .nilIface→v = .nilIface → ∃c,y = .const c)) (h2:∀cs,u ≠ .agg cs):
  (eqGuard op T x y u v).run P w = .ok () w:=by
 unfold eqGuard;cases op <;> simp only[lE2,eF2,if_true,if_false,pF2,Sem.run_pure] <;>
 ·cases u <;> first | exact absurd rfl (h2 _) | rfl | skip
  cases v <;> first | rfl | skip
  obtain⟨c,e⟩:=h rfl rfl;subst e;simp
theorem wO1 {op:BinOp} {T:TypeId} {k:IntKind} {x y:Int} {g:List Bool} {c:Lf} (h:sN1 op k x y=some (g,c)) (hg:g.all id=true):
  ∃v,(binOp op T (.int k x) (.int k y)).run P w = .ok v w∧LfOK w Z γ c v:=by
 unfold sN1 at h;split at h <;> cases h <;> simp only[binOp,ne_eq,not_true,if_false,Op.intArith,Op.intDiv,Op.intCmp,Op.intBits,Sem.run_pure]
 ·exact⟨_,rfl,rfl⟩
 ·exact⟨_,rfl,rfl⟩
 ·exact⟨_,rfl,rfl⟩
 ·have:¬y=0:=by simpa using hg
  simp only[this,if_false];exact⟨_,rfl,rfl⟩
 ·have:¬y=0:=by simpa using hg
  simp only[this,if_false];exact⟨_,rfl,rfl⟩
 ·exact⟨_,rfl,rfl⟩
 ·exact⟨_,rfl,rfl⟩
 ·exact⟨_,rfl,rfl⟩
 ·exact⟨_,rfl,rfl⟩
 ·exact⟨_,rfl,rfl⟩
 ·exact⟨_,rfl,rfl⟩
 ·exact⟨_,rfl,rfl⟩
 ·exact⟨_,rfl,rfl⟩
 ·exact⟨_,rfl,rfl⟩
theorem uE1 {op:BinOp} {T:TypeId} {k k':IntKind} {x y:Int} {g:List Bool} {c:Lf} (h:hB1 op k x y=some (g,c)) (hg:g.all id=true):
  ∃v,(binOp op T (.int k x) (.int k' y)).run P w = .ok v w∧LfOK w Z γ c v:=by
 unfold hB1 at h;split at h <;> cases h <;>
 ·have h0:¬y<0:=by
   have:(0:Int)≤y:=by simpa using hg
   omega
  simp only[binOp,Op.shift,h0,if_false,Sem.run_pure];exact⟨_,rfl,rfl⟩
theorem lO1 {op:BinOp} {T:TypeId} {x y:ByteArray} {g:List Bool} {c:Lf} (h:dP1 op x y=some (g,c)) (hg:g.all id=true):
  ∃v,(binOp op T (.string x) (.string y)).run P w = .ok v w∧LfOK w Z γ c v:=by
 unfold dP1 at h;split at h <;> cases h <;> simp only[binOp,Op.stringOp,Sem.run_pure]
 ·have h1:x.size+y.size≤9223372036854775807:=by simpa using hg
  have h2:¬(((x.size+y.size:Nat):Int)>IntKind.i64.max):=by
   have:IntKind.i64.max=9223372036854775807:=by decide
   rw[this];omega
  simp only[h2,if_false];exact⟨_,rfl,rfl⟩
 ·exact⟨_,rfl,rfl⟩
 ·exact⟨_,rfl,rfl⟩
 ·exact⟨_,rfl,rfl⟩
 ·exact⟨_,rfl,rfl⟩
theorem jV {T:TypeId} {ms:Array (String×TypeId)} (d:Nat) (hT:P.underlying T=some (.interface ms)):(Op.equalIn (d+1) T .nilIface .nilIface).run P w = .ok true w:=by simp[Op.equalIn,run_underlying hT]
theorem nW {T T':TypeId} {u:Value} {ms:Array (String×TypeId)} (d:Nat) (hT:P.underlying T=some (.interface ms)):(Op.equalIn (d+1) T (.iface T' u) .nilIface).run P w = .ok false w:=by simp[Op.equalIn,run_underlying hT]
theorem pP {T:TypeId} {ms:Array (String×TypeId)} (hT:P.underlying T=some (.interface ms)):(Op.equal T .nilIface .nilIface).run P w = .ok true w:=jV 9999 hT
theorem oQ {T T':TypeId} {u:Value} {ms:Array (String×TypeId)} (hT:P.underlying T=some (.interface ms)):(Op.equal T (.iface T' u) .nilIface).run P w = .ok false w:=nW 9999 hT
theorem bG1 {T:TypeId} {ms:Array (String×TypeId)} (hT:P.underlying T=some (.interface ms)):(binOp .eql T .nilIface .nilIface).run P w = .ok (.bool true) w:=by show(do pure (Value.bool ((←Op.equal T .nilIface .nilIface))):Sem Value).run P w=_;simp[pP hT]
theorem cF1 {T:TypeId} {ms:Array (String×TypeId)} (hT:P.underlying T=some (.interface ms)):(binOp .neq T .nilIface .nilIface).run P w = .ok (.bool false) w:=by show(do pure (Value.bool (!(←Op.equal T .nilIface .nilIface))):Sem Value).run P w=_;simp[pP hT]
theorem vF1 {T T':TypeId} {u:Value} {ms:Array (String×TypeId)} (hT:P.underlying T=some (.interface ms)):(binOp .eql T (.iface T' u) .nilIface).run P w = .ok (.bool false) w:=by show(do pure (Value.bool ((←Op.equal T (.iface T' u) .nilIface))):Sem Value).run P w=_;simp[oQ hT]
theorem iF1 {T T':TypeId} {u:Value} {ms:Array (String×TypeId)} (hT:P.underlying T=some (.interface ms)):(binOp .neq T (.iface T' u) .nilIface).run P w = .ok (.bool true) w:=by show(do pure (Value.bool (!(←Op.equal T (.iface T' u) .nilIface))):Sem Value).run P w=_;simp[oQ hT]
theorem dA2 (henv:kF P E=true) {op:BinOp} {T:TypeId} {x y:Operand} {u v:Value} {c c1 c2:Lf} {g:List Bool} (hk:rK1 E T y c1=true) (h:kY1 op c1 c2=some (g,c)) (hg:g.all id=true)
  (h1:LfOK w Z γ c1 u) (h2:LfOK w Z γ c2 v):∃r,(do eqGuard op T x y u v;binOp op T u v:Sem Value).run P w = .ok r w∧LfOK w Z γ c r:=by
 unfold kY1 at h;split at h
 ·rename_i k x' k' y';split at h
  ·rename_i r hr;cases h;cases h1;cases h2;rw[Sem.run_bind,rF (by simp) (by simp)];exact uE1 hr hg
  ·split at h
   ·rename_i hkk;have:=hA1 hkk;subst this;cases h1;cases h2;rw[Sem.run_bind,rF (by simp) (by simp)];exact wO1 h hg
   ·cases h
 ·cases h1;cases h2;rw[Sem.run_bind,rF (by simp) (by simp)];exact lO1 h hg
 ·rename_i x' y';cases h1;cases h2;have hT:P.underlying T=some .bool:=by
   simp only[rK1]at hk;split at hk
   ·rename_i ht;exact dK (uE henv ht)
   ·cases hk
  rw[Sem.run_bind,rF (by simp) (by simp)];simp only[Result.andThen_ok];unfold rP1 at h;split at h <;> cases h
  ·exact⟨_,run_eql_bool w T x' y' hT,rfl⟩
  ·exact⟨_,run_neq_bool w T x' y' hT,rfl⟩
 ·rename_i x';cases h2;simp only[rK1,iE2]at hk;obtain⟨hk1,hk2⟩:=hk;have hT:∃ms,P.underlying T=some (.interface ms):=by
   unfold Env.isErr at hk1;split at hk1
   ·rename_i ht;exact dT (uE henv ht)
   ·cases hk1
  obtain⟨ms,hT⟩:=hT;have hc:∃c,y = .const c:=by
   split at hk2
   ·exact⟨_,rfl⟩
   ·cases hk2
  obtain⟨v,hv,h1⟩:=h1;simp only[List.cons.injEq,and_true]at hv;subst hv;unfold zV1 at h;rcases h1 with⟨e,e2⟩ | ⟨e,T',u',e2⟩ <;> subst e2 <;> subst e <;>
   rw[Sem.run_bind,rF (fun _ _=>hc) (by simp)] <;> simp only[Result.andThen_ok] <;> split at h <;> cases h
  ·exact⟨.bool true,bG1 hT,rfl⟩
  ·exact⟨.bool false,cF1 hT,rfl⟩
  ·exact⟨.bool false,vF1 hT,rfl⟩
  ·exact⟨.bool true,iF1 hT,rfl⟩
 ·obtain⟨g',hg',e⟩:=h1;cases h2;have hT:P.underlying T=some (.pointer (P.pointee T)):=by
   simp only[rK1,Env.isPtr]at hk;split at hk
   ·rename_i b hb;subst hk;exact rE1 (jN henv hb)
   ·cases hk
  subst e;rw[Sem.run_bind,rF (by simp) (by simp)];simp only[Result.andThen_ok];unfold hH1 at h;split at h <;> cases h
  ·exact⟨_,run_eql_pointer_nil w T _ hT,rfl⟩
  ·exact⟨_,run_neq_pointer_nil w T _ hT,rfl⟩
 ·cases h1;cases h2;have hT:P.underlying T=some (.pointer (P.pointee T)):=by
   simp only[rK1,Env.isPtr]at hk;split at hk
   ·rename_i b hb;subst hk;exact rE1 (jN henv hb)
   ·cases hk
  rw[Sem.run_bind,rF (by simp) (by simp)];simp only[Result.andThen_ok];unfold hH1 at h;split at h <;> cases h
  ·exact⟨_,run_eql_pointer_nil w T _ hT,rfl⟩
  ·exact⟨_,run_neq_pointer_nil w T _ hT,rfl⟩
 ·cases h
variable {s s1 : St} {a : Act} {o : Oper} {g : List Bool} {x : Slot} {ob' : List (Nat × Ob)}
theorem vC1 {y:Operand} (ho:o.op = .move y∨o.op = .assign y) (h:step E s o=some (s1,.go g x ob')) (hi:Inv w0 M Z0 w Z γ s.ob) (hs:SlotsOK w Z γ s.ob s.sl a.tmps):Does P w0 M Z0 w γ a o s1 x ob':=by
 rcases ho with ho | ho <;>
 ·simp only[step,ho]at h;split at h
  ·rename_i z hz;cases h;exact Does.pure (a.eval y) hi hs (by simp[execOp,ho]) (gG hz hs)
  ·cases h
theorem xO1 {op:UnOp} {T:TypeId} {y:Operand} (ho:o.op = .unOp op T y) (h:step E s o=some (s1,.go g x ob')) (hi:Inv w0 M Z0 w Z γ s.ob) (hs:SlotsOK w Z γ s.ob s.sl a.tmps):Does P w0 M Z0 w γ a o s1 x ob':=by
 simp only[step,ho]at h;split at h
 ·rename_i k n h1;cases h;exact Does.pure ((fun m:Int=>Value.int k (k.wrap (0-m))) n) hi hs (by simp[execOp,ho,bN h1 hs,Op.unary,Op.intArith]) rfl
 ·rename_i b h1;cases h;exact Does.pure (.bool !b) hi hs (by simp[execOp,ho,xP h1 hs,Op.unary]) rfl
 ·cases h
theorem sQ {ob:List (Nat×Ob)} {c:Bool×List Lf} {v:Value} (h:if c.1=true then ∃cs,v = .agg cs∧All2 (LfOK w Z γ) c.2 cs.toList else ∃d,c.2=[d]∧LfOK w Z γ d v):SlotOK w Z γ ob (gS c) v:=by
 obtain⟨b,l⟩:=c
 cases b with
 | true=>exact h
 | false=>
  obtain⟨d,e,h⟩:=h;simp only at e;subst e;exact h
theorem aE1 {y:Operand} {i:Nat} (ho:o.op = .extract y i) (h:step E s o=some (s1,.go g x ob')) (hi:Inv w0 M Z0 w Z γ s.ob) (hs:SlotsOK w Z γ s.ob s.sl a.tmps):Does P w0 M Z0 w γ a o s1 x ob':=by
 simp only[step,ho]at h;split at h
 ·rename_i l hl;split at h
  ·rename_i c hc;cases h;obtain⟨vs,e,hv⟩:=gG hl hs;have hlt:i<vs.size:=by have:=All2.length hv;rw[wE2 (xs:=vs)]at this;rw[←this];exact(sF2.1 hc).1
   have hvi:vs[i]?=some vs[i]:=rG2 hlt;exact Does.pure vs[i] hi hs (by simp[execOp,ho,e,Instr.extract,hvi]) (sQ (All2.get i c vs[i] hv hc (by rw[tG2,hvi])))
  ·cases h
 ·cases h
theorem mQ1 {ob:List (Nat×Ob)} {ag:Bool} {l:List Lf} {y:Slot} {cs:List Value} (h:zQ1 ag l=some y) (hl:All2 (LfOK w Z γ) l cs):SlotOK w Z γ ob y (gI ag cs):=by
 unfold zQ1 at h;unfold gI;split at h
 ·rename_i hb;cases h;rw[if_pos hb];exact⟨_,rfl,hl⟩
 ·rename_i hb;rw[if_neg hb];split at h
  ·cases h
   cases cs with
   | nil=>exact hl.elim
   | cons c cs=>exact hl.1
  ·cases h
theorem fT :∀{fs:Tys} {l:List Field} {n i:Nat} {t:Ty},oJ P fs l n=true→fs.get i=some t → ∃f,l[i]?=some f∧f.offset=n+fs.off i∧tyOK P t f.type=true
 | .nil,_,_,_,_,_,h=>by simp[Tys.get]at h
 | .cons t ts,[],_,_,_,h,_=>by simp[oJ]at h
 | .cons t ts,f::l,n,0,t',h,hg=>by simp only[oJ,iE2,beqt]at h;simp only[Tys.get]at hg;cases hg;exact⟨f,rfl,by simp[Tys.off,h.1.1],h.1.2⟩
 | .cons t ts,f::l,n,i+1,t',h,hg=>by simp only[oJ,iE2,beqt]at h;obtain⟨f',h1,h2,h3⟩:=fT h.2 (by simpa only[Tys.get]using hg);exact⟨f',by simpa using h1,by rw[h2];simp only[Tys.off];omega,h3⟩
theorem vQ {ob:List (Nat×Ob)} {ag:Bool} {n:Nat} {l:List Lf} {y:Slot} {cs:List Value} (h:aD1 ag n l=some y) (hl:All2 (LfOK w Z γ) l cs):n≤cs.length∧SlotOK w Z γ ob y (gI ag (cs.take n)):=by
 unfold aD1 at h;split at h
 ·rename_i hn;have:=beqt.1 hn;rw[fF2,All2.length hl]at this;exact⟨by omega,mQ1 h (All2.take n hl)⟩
 ·cases h
theorem nZ {T:TypeId} {ag:Bool} {n:Nat} (h:CellTy P T ag n) (cs:Array Value) (off:Nat) (hl:n≤(cs.toList.drop off).length):(part T cs off).run P w = .ok (gI ag ((cs.toList.drop off).take n)) w:=by
 obtain⟨i,hi,hn⟩:=h.info;unfold part gI;simp only[Sem.run_bind,h.agg,Result.andThen_ok]
 cases ag with
 | true=>
  simp only[if_true,Sem.run_bind,sizeOf,typeInfo,run_program,Result.andThen_ok,hi,Sem.run_pure,hn]
  congr 2
  apply Array.ext';simp
 | false=>
  have h1:=h.one rfl;subst h1;have hlt:off<cs.size:=by rw[fG2,wE2]at hl;omega
  have:((cs.toList.drop off).take 1).getD 0 undef=cs[off]:=by rw[oE2,eH2,jH2];simp[hlt]
  rw[this];simp[rG2 hlt]
mutual
theorem cV1 :∀{t:Ty} {T:TypeId} {x y:t.D} {u v:List Value} (d:Nat),tyOK P t T=true→eqT P t T=true→t.ht≤d→t.Rep w Z x u→t.Rep w Z y v →
  (Op.equalIn d T (gI t.isSt u) (gI t.isSt v)).run P w = .ok (t.eqD x y) w
 | .int k,T,x,y,u,v,d+1,hT,_,_,hx,hy=>by simp only[Ty.Rep]at hx hy;subst hx hy;show(Op.equalIn (d+1) T (.int k x) (.int k y)).run P w=_;rw[run_equalIn_int w d T k k x y (bJ hT)];rfl
 | .bool,T,x,y,u,v,d+1,hT,_,_,hx,hy=>by simp only[Ty.Rep]at hx hy;subst hx hy;exact run_equalIn_bool' w d T x y (dK hT)
 | .str,T,x,y,u,v,d+1,hT,_,_,hx,hy=>by simp only[Ty.Rep]at hx hy;subst hx hy;exact run_equalIn_string w d T x y (nK hT)
 | .st fs,T,x,y,u,v,d+1,hT,he,hd,hx,hy=>by
  obtain⟨l,hl,hf⟩:=wM hT;simp only[eqT,iE2,bG2,hl]at he;have hfo:P.fieldsOf T=l:=by simp[Program.fieldsOf,hl]
  show(Op.equalIn (d+1) T (.agg u.toArray) (.agg v.toArray)).run P w=_;rw[run_equalIn_struct w d T _ _ (by rw[hfo];exact hl) he.1,hfo];exact zO1 (fs:=fs) (l:=l.toList) (n:=0) (pu:=[]) (pv:=[]) d hf he.2 (by simp only[Ty.ht]at hd;omega) rfl rfl hx hy
 | .err,_,_,_,_,_,_+1,_,he,_,_,_=>by cases he
 | .row _ _,_,_,_,_,_,_+1,_,he,_,_,_=>by cases he
 | .any _ _,_,_,_,_,_,_+1,_,he,_,_,_=>by cases he
 | .int _,_,_,_,_,_,0,_,_,hd,_,_ | .bool,_,_,_,_,_,0,_,_,hd,_,_ | .str,_,_,_,_,_,0,_,_,hd,_,_ | .err,_,_,_,_,_,0,_,_,hd,_,_
 | .st _,_,_,_,_,_,0,_,_,hd,_,_ | .row _ _,_,_,_,_,_,0,_,_,hd,_,_ | .any _ _,_,_,_,_,_,0,_,_,hd,_,_=>by simp[Ty.ht]at hd
theorem zO1 :∀{fs:Tys} {l:List Field} {n:Nat} {x y:fs.D} {pu pv u v:List Value} (d:Nat),oJ P fs l n=true→eqFs P fs l=true→fs.ht≤d→pu.length=n→pv.length=n→fs.Rep w Z x u→fs.Rep w Z y v →
  (Op.eqFields d (pu++u).toArray (pv++v).toArray l).run P w = .ok (fs.eqD x y) w
 | .nil,[],n,x,y,pu,pv,u,v,d,_,_,_,_,_,_,_=>by simp[Op.eqFields,Tys.eqD]
 | .cons t ts,f::l,n,x,y,pu,pv,u,v,d,hf,he,hd,h1,h2,hx,hy=>by
  simp only[oJ,iE2,beqt]at hf;simp only[eqFs,iE2,bne_iff_ne]at he;obtain⟨⟨hoff,hty⟩,hrest⟩:=hf;obtain⟨⟨hnm,he1⟩,he2⟩:=he;simp only[Tys.ht]at hd;obtain⟨a,b,rfl,hx1,hx2⟩:=hx;obtain⟨a',b',rfl,hy1,hy2⟩:=hy;have hla:=Ty.Rep.length hx1;have hla':=Ty.Rep.length hy1;have hct:=vN hty;have hpa:(part f.type (pu++(a++b)).toArray f.offset).run P w = .ok (gI t.isSt a) w:=by
   rw[nZ hct _ _ (by rw[hoff];simp[h1,hla]),hoff]
   congr 2
   simp[←h1,←hla]
  have hpb:(part f.type (pv++(a'++b')).toArray f.offset).run P w = .ok (gI t.isSt a') w:=by
   rw[nZ hct _ _ (by rw[hoff];simp[h2,hla']),hoff]
   congr 2
   simp[←h2,←hla']
  have ih:=zO1 (fs:=ts) (l:=l) (n:=n+t.sz) (x:=x.2) (y:=y.2) (pu:=pu++a) (pv:=pv++a') (u:=b) (v:=b') d hrest he2 (by omega) (by simp[h1,hla]) (by simp[h2,hla']) hx2 hy2;rw[uE2,uE2]at ih;have hq:=cV1 (t:=t) (T:=f.type) d hty he1 (by omega) hx1 hy1;simp only[Op.eqFields,hnm,ne_eq,not_false_eq_true,if_true,Sem.run_bind,hpa,hpb,hq,Result.andThen_ok,Tys.eqD];cases t.eqD x.1 y.1
  ·simp
  ·simpa using ih
 | .nil,_::_,_,_,_,_,_,_,_,_,hf,_,_,_,_,_,_=>by simp[oJ]at hf
 | .cons _ _,[],_,_,_,_,_,_,_,_,hf,_,_,_,_,_,_=>by simp[oJ]at hf
end
theorem kJ1 (henv:kF P E=true) {op:BinOp} {T U:TypeId} {y z:Operand} (ho:o.op = .binOp op T y z U) (h:step E s o=some (s1,.go g x ob')) (hg:g.all id=true) (hi:Inv w0 M Z0 w Z γ s.ob) (hs:SlotsOK w Z γ s.ob s.sl a.tmps):Does P w0 M Z0 w γ a o s1 x ob':=by
 simp only[step,ho]at h;split at h
 ·rename_i c1 c2 h1 h2;split at h
  ·rename_i hk;split at h
   ·rename_i g' c hb;cases h;obtain⟨r,hr,hx⟩:=dA2 henv hk hb hg (wE h1 hs) (wE h2 hs);exact Does.pure r hi hs (by simp only[execOp,ho];rw[Sem.run_bind,hr];rfl) hx
   ·cases h
  ·cases h
 ·rename_i l m h1 h2;split at h
  ·rename_i fs hT;split at h
   ·rename_i hq;split at h
    ·rename_i xv yv hp1 hp2;obtain⟨cs,e1,hc1⟩:=gG h1 hs;obtain⟨ds,e2,hc2⟩:=gG h2 hs;have hp1':(Ty.st fs).pack l=some (xv,[]):=hp1;have hp2':(Ty.st fs).pack m=some (yv,[]):=hp2;obtain⟨a1,b1,e3,hr1,hb1⟩:=eP hp1' hc1;obtain⟨a2,b2,e4,hr2,hb2⟩:=eP hp2' hc2;have hb1:b1=[]:=aF2 (by have:=All2.length hb1;simpa using this.symm);have hb2:b2=[]:=aF2 (by have:=All2.length hb2;simpa using this.symm);subst hb1 hb2;rw[zE2]at e3 e4;have hok:=aT1 henv hq;simp only[eqOK,hT,iE2,bG2]at hok;obtain⟨⟨hk1,hk2⟩,hk3⟩:=hok;have hrun:=cV1 (w:=w) (Z:=Z) (t:=.st fs) (T:=T) (x:=xv) (y:=yv) 10000 (uE henv hT) hk1 (sG2 (rF2 hk2) (by decide)) hr1 hr2;have hag1:gI (Ty.st fs).isSt a1 = .agg cs:=by rw[←e3];rfl
     have hag2:gI (Ty.st fs).isSt a2 = .agg ds:=by rw[←e4];rfl
     rw[hag1,hag2]at hrun;have hgd:∀q,(eqGuard q T y z (.agg cs) (.agg ds)).run P w = .ok () w:=fun q=>run_eqGuard_agg w q T y z cs ds hk3
     split at h
     ·cases h;refine Does.pure (.bool (fs.eqD xv yv)) hi hs ?_ rfl;simp only[execOp,ho,e1,e2,Sem.run_bind,hgd,Result.andThen_ok];rw[run_eql_struct,hrun];rfl
     ·cases h;refine Does.pure (.bool (!fs.eqD xv yv)) hi hs ?_ rfl;simp only[execOp,ho,e1,e2,Sem.run_bind,hgd,Result.andThen_ok];rw[run_neq_struct,hrun];rfl
     ·cases h
    ·cases h
   ·cases h
  ·cases h
 ·cases h
theorem nJ1 (henv:kF P E=true) {T:TypeId} {y:Operand} {f:Nat} (ho:o.op = .field T y f) (h:step E s o=some (s1,.go g x ob')) (hi:Inv w0 M Z0 w Z γ s.ob) (hs:SlotsOK w Z γ s.ob s.sl a.tmps):Does P w0 M Z0 w γ a o s1 x ob':=by
 simp only[step,ho]at h;split at h
 ·rename_i l fs hl ht;split at h
  ·rename_i t hft;split at h
   ·rename_i z hz;cases h;obtain⟨cs,e,hc⟩:=gG hl hs;obtain⟨fl,hu,hfl⟩:=wM (uE henv ht);obtain⟨fd,h1,h2,h3⟩:=fT hfl hft;rw[xG2]at h2;have hct:=vN h3;obtain⟨hlen,hz⟩:=vQ (ob:=s.ob) hz (All2.drop _ hc);refine Does.pure (gI t.isSt ((cs.toList.drop (fs.off f)).take t.sz)) hi hs ?_ hz;have h1':fl[f]?=some fd:=by simpa using h1
    simp[execOp,ho,e,Instr.field,run_underlying hu,h1',asAgg,h2,nZ hct cs _ hlen]
   ·cases h
  ·cases h
 ·cases h
theorem xT (off:Nat):∀(vs:List Value) (k:Nat) (cells:Array Value),off+k+vs.length≤cells.size →
  ((vs.zipIdx k).foldl (fun cs (x:Value×Nat)=>cs.setIfInBounds (off+x.2) x.1) cells).toList=cells.toList.take (off+k)++vs++cells.toList.drop (off+k+vs.length)
 | [],k,cells,_=>by simp
 | v::vs,k,cells,h=>by
  simp only[List.zipIdx_cons,iH2]
  rw[xT off vs (k+1) (cells.setIfInBounds (off+k) v) (by simp only[iF2]at h;simp;omega),Array.toList_setIfInBounds,
   show off+(k+1)=off+k+1 by omega]
  exact list_seg_step cells.toList (off+k) v vs (by simpa[Nat.add_assoc]using h)
theorem zM1 {places:Nat→Option (Nat×Nat)} {fs:Tys} (hp:∀i t,fs.get i=some t→places i=some (fs.off i,t.sz)) {s:St} {ev:Operand→Value} (hev:∀x y,s.opnd x=some y→SlotOK w Z γ s.ob y (ev x)):
  ∀(ps:List (Nat×Operand)) (l l':List Lf) (cells:Array Value),tS fs s l ps=some l'→All2 (LfOK w Z γ) l cells.toList → ∃cells',Instr.fill places cells (ps.map fun x=>(x.1,ev x.2))=some cells'∧All2 (LfOK w Z γ) l' cells'.toList
 | [],l,l',cells,h,hl=>by simp only[tS]at h;cases h;exact⟨cells,rfl,hl⟩
 | (i,x)::r,l,l',cells,h,hl=>by
  simp only[tS]at h;split at h
  ·rename_i y hy;split at h
   ·rename_i c hc;split at h
    ·rename_i t ht;split at h
     ·rename_i hsz;split at h
      ·rename_i l2 hf;have hcs:=(nL (hev x y hy) hc).1;have hlen:(ev x).cells.size=c.length:=by rw[←wE2,←All2.length hcs]
       unfold vJ1 at hf;split at hf
       ·rename_i hfit;cases hf;have hsize:cells.size=l.length:=by rw[←wE2,←All2.length hl]
        have hfs:=xT (fs.off i) (ev x).cells.toList 0 cells (by rw[wE2,hlen,hsize];omega)
        obtain⟨cells',h1,h2⟩:=zM1 hp hev r _ l' ((ev x).cells.zipIdx.foldl (fun cs (x:Value×Nat)=>cs.setIfInBounds (fs.off i+x.2) x.1) cells) h (by
         rw[←Array.foldl_toList,Array.toList_zipIdx,hfs];simp only[Nat.add_zero,wE2,hlen]
         exact All2.append (All2.append (All2.take _ hl) hcs) (All2.drop _ hl))
        refine⟨cells',?_,h2⟩;simp only[qF2,Instr.fill,hp i t ht];have hc:((decide ((ev x).cells.size≠t.sz)||decide (fs.off i+(ev x).cells.size>cells.size))=true)=False:=by simp only[eq_iff_iff,iff_false,kG2,decide_eq_true_eq];omega
        simp only[hc,if_false];exact h1
       ·cases hf
      ·cases h
     ·cases h
    ·cases h
   ·cases h
  ·cases h
theorem bZ {α β:Type} (f:α→Sem β) (k:α→β) (l:Array α) (hf:∀x∈l.toList,∀w,(f x).run P w = .ok (k x) w) (w:World):(l.mapM f).run P w = .ok (l.map k) w:=by
 rw[Array.mapM_eq_mapM_toList];have:(l.toList.mapM f).run P w = .ok (l.toList.map k) w:=by
  cases l with
  | mk l=>
   induction l with
   | nil=>simp
   | cons x l ih=>
    have h1:=hf x nE2;have h2:=ih fun x hx=>hf x (mE2 _ hx)
    simp[List.mapM_cons,h1,h2]
 simp only[Sem.run_map,this,Result.andThen_ok];rw[←Array.toList_map,dG2]
theorem jD1 :∀{fs:Tys} {l:List Field} {n:Nat},oJ P fs l n=true → ∀f∈l,∃i,P.info? f.type=some i
 | .nil,[],_,_=>by simp
 | .nil,_::_,_,h=>by simp[oJ]at h
 | .cons _ _,[],_,h=>by simp[oJ]at h
 | .cons t ts,f::l,n,h=>by
  simp only[oJ,iE2,beqt]at h;intro f' hf;rcases pE2.1 hf with e | hf
  ·subst e;obtain⟨i,h1,_⟩:=aG h.1.2;exact⟨i,h1⟩
  ·exact jD1 h.2 f' hf
theorem mJ1 (henv:kF P E=true) {T:TypeId} {ps:Array (Nat×Operand)} (ho:o.op = .build T ps) (h:step E s o=some (s1,.go g x ob')) (hi:Inv w0 M Z0 w Z γ s.ob) (hs:SlotsOK w Z γ s.ob s.sl a.tmps):Does P w0 M Z0 w γ a o s1 x ob':=by
 simp only[step,ho]at h;split at h
 ·rename_i fs ht;split at h
  ·rename_i l hb;cases h;have hty:=uE henv ht;obtain⟨fl,hu,hfl⟩:=wM hty;obtain⟨i,hinfo,hio⟩:=aG hty;obtain⟨hsz,_,z,hz,_,hzl,_⟩:=aF (w:=w) (Z:=Z) γ hio
   let places:Array (Nat×Nat):=fl.map fun f=>(f.offset,((P.info? f.type).map (·.size)).getD 0)
   have hpl:(fl.mapM fun f=>do pure (f.offset,←sizeOf f.type):Sem _).run P w = .ok places w:=
    bZ _ _ fl (fun f hf w=>by
     obtain⟨i,h1⟩:=jD1 hfl f hf
     simp[sizeOf,typeInfo,h1]) w
   obtain⟨cells',h1,h2⟩:=zM1 (places:=fun i=>places[i]?) (fs:=fs) (fun i t hft=>by
    obtain⟨fd,h1,h2,h3⟩:=fT hfl hft;obtain⟨j,hj,hj2⟩:=(vN h3).info;rw[xG2]at h2;have h1':fl[i]?=some fd:=by simpa using h1
    simp[places,h1',hj,hj2,h2]) (ev:=a.eval) (fun x y hy=>gG hy hs) ps.toList fs.zl l z.cells hb hzl
   refine Does.pure (.agg cells') hi hs ?_ ⟨cells',rfl,h2⟩;simp only[execOp,ho,Instr.build,Sem.run_bind,zeroValue,typeInfo,run_program,Result.andThen_ok,hinfo,Sem.run_pure,hz,run_underlying hu,hpl];have:(ps.map fun(x:Nat×Operand)=>(x.1,a.eval x.2)).toList=ps.toList.map fun x=>(x.1,a.eval x.2):=by simp
   simp only[this,h1];rfl
  ·cases h
 ·cases h
theorem jB1 {y:Operand} (ho:o.op = .nilCheck y) (h:step E s o=some (s1,.go g x ob')) (hi:Inv w0 M Z0 w Z γ s.ob) (hs:SlotsOK w Z γ s.ob s.sl a.tmps):Does P w0 M Z0 w γ a o s1 x ob':=by
 simp only[step,ho]at h;split at h
 ·rename_i b off hb;cases h;have hx:=wE hb hs;refine Does.pure (a.eval y) hi hs ?_ hx;obtain⟨g,_,e⟩:=hx;simp[execOp,ho,e]
 ·rename_i f cs hb;split at h
  ·rename_i hf;cases h;have hx:=wE hb hs;refine Does.pure (a.eval y) hi hs ?_ hx;simp[execOp,ho,hx.1,tF1 hf]
  ·cases h
 ·cases h
theorem mO :∀{l:List Operand} {cs:List Slot},s.cellsOf l=some cs→SlotsOK w Z γ s.ob s.sl a.tmps→All2 (SlotOK w Z γ s.ob) cs (l.map a.eval)
 | [],cs,h,_=>by simp only[St.cellsOf]at h;cases h;trivial
 | x::l,cs,h,hs=>by
  simp only[St.cellsOf]at h;split at h
  ·rename_i y hy;split at h
   ·rename_i r hr;cases h;exact⟨gG hy hs,mO hr hs⟩
   ·cases h
  ·cases h
theorem aB1 {f:Fn} {first caps:Array Operand} (ho:o.op = .makeFunc f first caps) (h:step E s o=some (s1,.go g x ob')) (hi:Inv w0 M Z0 w Z γ s.ob) (hs:SlotsOK w Z γ s.ob s.sl a.tmps):Does P w0 M Z0 w γ a o s1 x ob':=by
 cases f with
 | func f=>
  simp only[step,ho]at h;split at h
  ·rename_i hf;split at h
   ·rename_i l hl;split at h
    ·rename_i bs hbs;split at h
     case isFalse=>cases h
     rename_i hfb;cases h;have hc:=mO hl hs;have key:∀(l:List Slot) (bs:List Nat) (vs:List Value),gH1 l=some bs→All2 (SlotOK w Z γ s.ob) l vs→vs=bs.map γ ∧ ∀b∈bs,∃g,γ b = .pointer (some ⟨g,0,none⟩):=by
      intro l
      induction l with
      | nil=>
       intro bs vs hb hv
       cases vs with
       | nil=>cases hb;exact⟨rfl,by simp⟩
       | cons _ _=>exact hv.elim
      | cons x l ih=>
       intro bs vs hb hv
       cases vs with
       | nil=>exact hv.elim
       | cons v vs=>
        unfold gH1 at hb;split at hb
        ·rename_i e;cases e
        ·rename_i b l' e;cases e;split at hb
         ·rename_i bs' h2;cases hb;obtain⟨h4,h5⟩:=ih bs' vs h2 hv.2;obtain⟨gg,h6,h7⟩:=hv.1;refine⟨by rw[h7,←h6,h4];rfl,fun b hb=>?_⟩;rcases pE2.1 hb with e | hb
          ·subst e;exact⟨gg,h6⟩
          ·exact h5 b hb
         ·cases hb
        ·cases hb
     obtain⟨h1,h2⟩:=key l bs _ hbs hc;have hfe:first = #[]:=by simpa using hf
     have hce:caps.map a.eval=(bs.map γ).toArray:=by rw[←h1,←Array.toList_map,dG2]
     refine Does.pure (.func (.func f) #[] (bs.map γ).toArray) hi hs ?_ ⟨(tF1 hfb _).symm,.inl hfb,h2⟩;simp[execOp,ho,Instr.makeFunc,hfe,hce]
    ·cases h
   ·cases h
  ·cases h
 | _=>simp only[step,ho]at h;cases h
theorem mA1 {T:TypeId} (hT:P.underlying T=some .string) (b:ByteArray) (k:IntKind) (n:Int) (h0:0≤n) (h1:n<b.size):
  (Instr.index T (.string b) (.int k n)).run P w = .ok (.int .u8 (bt b n)) w:=by
 have hlt:n.toNat<b.size:=by omega
 have hb:b[n.toNat]?=some b[n.toNat]:=getElem?_pos b n.toNat hlt;have he:bt b n=(b[n.toNat].toNat:Int):=by
  unfold bt
  congr 2
  rw[oE2];have h2:b.data.toList[n.toNat]?=some b[n.toNat]:=by rw[tG2];exact rG2 hlt
  rw[h2];rfl
 simp only[Instr.index,asIntOf,Sem.run_bind,Sem.run_pure,Result.andThen_ok,run_underlying hT,h0,if_true,hb,he]
theorem Lf.int_v {c:Lf} {k:IntKind} {n:Int} (h:c.int=some (k,n)):c = .v (.int k) n:=by
 cases c with
 | v t m=>cases t <;> simp only[Lf.int]at h <;> cases h;rfl
 | _=>cases h
theorem yS {T:TypeId} (henv:kF P E=true) (h:E.isStr T=true):P.underlying T=some .string:=by
 unfold Env.isStr at h;split at h
 ·rename_i ht;exact nK (uE henv ht)
 ·cases h
theorem eL1 (henv:kF P E=true) {T:TypeId} {y z:Operand} (ho:o.op = .index T y z) (h:step E s o=some (s1,.go g x ob')) (hg:g.all id=true) (hi:Inv w0 M Z0 w Z γ s.ob) (hs:SlotsOK w Z γ s.ob s.sl a.tmps):Does P w0 M Z0 w γ a o s1 x ob':=by
 simp only[step,ho]at h;split at h
 ·rename_i b ci hb hc;split at h
  ·rename_i k n hn hstr;cases h;cases Lf.int_v hn;simp only[kH2,List.all_nil,id,zH2,iE2,decide_eq_true_eq]at hg;refine Does.pure (.int .u8 (bt b n)) hi hs ?_ rfl;simp[execOp,ho,oT hb hs,bN hc hs,mA1 (w:=w) (yS henv hstr) b k n hg.1 hg.2]
  ·cases h
 ·cases h
def Bd (l:Option Int) (v:Option Value):Prop:=match l with | none=>v=none | some n=>∃k,v=some (.int k n)
theorem qQ {y:Option Operand} {l:Option Int} (h:mL s y=some l) (hs:SlotsOK w Z γ s.ob s.sl a.tmps):Bd l (y.map a.eval):=by
 cases y with
 | none=>simp only[mL]at h;cases h;rfl
 | some x=>
  simp only[mL]at h;split at h
  ·rename_i c hc;split at h
   ·rename_i k n hn;cases h;cases Lf.int_v hn;exact⟨k,by simp[bN hc hs]⟩
   ·cases h
  ·cases h
theorem fF1 {T:TypeId} (hT:P.underlying T=some .string) (z:ByteArray) {l h:Option Int} {lo hi:Option Value} (hl:Bd l lo)
  (hh:Bd h hi) {g:List Bool} {c:Lf} (he:eZ z l h=(g,c)) (hg:g.all id=true):
  ∃v,(Instr.sliceAt T (.string z) lo hi none).run P w = .ok v w∧LfOK w Z γ c v:=by
 unfold Instr.sliceAt;simp only[Sem.run_bind,run_underlying hT,Result.andThen_ok]
 cases l with
 | none=>
  cases hl
  cases h with
  | none=>
   cases hh;cases he;refine⟨.string z,?_,rfl⟩;simp[Instr.slice,run_underlying hT,Instr.sliceBounds]
  | some h=>
   obtain⟨k,hh⟩:=hh;subst hh;cases he;simp only[kH2,List.all_nil,id,zH2,iE2,decide_eq_true_eq]at hg;refine⟨_,run_slice_string_h w T z hT k h hg.1 hg.2,rfl⟩
 | some l=>
  obtain⟨k,hl⟩:=hl;subst hl
  cases h with
  | none=>
   cases hh;cases he;simp only[kH2,List.all_nil,id,zH2,iE2,decide_eq_true_eq]at hg;exact⟨_,run_slice_string_l w T z hT k l hg.1 hg.2,rfl⟩
  | some h=>
   obtain⟨k',hh⟩:=hh;subst hh;cases he;simp only[kH2,List.all_nil,id,zH2,iE2,decide_eq_true_eq]at hg;exact⟨_,run_slice_string (P:=P) (w:=w) T z k k' l h hT hg.1 hg.2.1 hg.2.2,rfl⟩
theorem bA1 (henv:kF P E=true) {T:TypeId} {y:Operand} {lo hi':Option Operand} {z:ByteArray} {l h':Option Int} {c:Lf} (ho:o.op = .slice T y lo hi' none) (h1:s.opnd y=some (.lf (.v .str z))) (h2:mL s lo=some l) (h3:mL s hi'=some h')
  (hT:E.isStr T=true) (he:eZ z l h'=(g,c)) (hg:g.all id=true) (hi:Inv w0 M Z0 w Z γ s.ob) (hs:SlotsOK w Z γ s.ob s.sl a.tmps):Does P w0 M Z0 w γ a o s (.lf c) s.ob:=by
 obtain⟨v,hr,hx⟩:=fF1 (w:=w) (Z:=Z) (γ:=γ) (yS henv hT) z (qQ h2 hs) (qQ h3 hs) he hg;refine Does.pure v hi hs ?_ hx;simp only[execOp,ho,oT h1 hs,Option.map_none,Sem.run_bind,hr];rfl
def Rd (w:World) (Z:Nat→Prop) (t:Ty) (xs:List t.D) (v:Value):Prop:=∃A cap cells,v = .slice A xs.length cap∧xs.length≤cap∧RepL (t.Rep w Z) xs cells ∧
 ((xs=[]∧(A=none→cap=0)) ∨ ∃ad,A=some ad ∧ ∀j u,cells[j]?=some u→w.cell? (ad.add j)=some u)
theorem xU (b:Addr) (m n:Nat):(b.add m).add n=b.add (m+n):=by
 unfold Addr.add;by_cases hm:m=0
 ·subst hm;simp
 ·by_cases hn:n=0
  ·subst hn;simp
  ·simp[hm,hn,Nat.add_assoc]
@[simp] theorem gA2 (b:Addr):b.add 0=b:=rfl
theorem pZ1 {e:TypeId} {t:Ty} {xs:List t.D} {v:Value} (h:(Ty.row e t).Rep w Z xs [v]):Rd w Z t xs v:=by
 obtain⟨A,cap,news,e,h1,h2,h3⟩:=h;cases e;refine⟨A,cap,news,rfl,h1,h2,?_⟩;rcases h3 with h3 | ⟨ad,h3,_,h4⟩
 ·exact .inl h3
 ·exact .inr ⟨ad,h3,h4⟩
theorem mP1 {e:TypeId} {t:Ty} {xs:List t.D} {v:Value} {cs:List Value} (h:w.ownsRow 0 e t.sz v xs.length cs) (hl:RepL (t.Rep w Z) xs cs):Rd w Z t xs v:=by
 have hcs:=fun gg=>h.cells (g:=gg)
 rcases h.2 with⟨rfl,hn⟩ | ⟨gg,cap,cur,rfl,_,_,hc,_⟩
 ·have:=aF2 hn;subst this;exact⟨none,0,cs,rfl,rE2 _,hl,.inl ⟨rfl,fun _=>rfl⟩⟩
 ·exact⟨some ⟨gg,0,none⟩,cap,cs,rfl,hc,hl,.inr ⟨_,rfl,fun j u hu=>hcs gg rfl j u hu⟩⟩
theorem kZ {t:Ty} {xs:List t.D} {A:Option Addr} {n c:Nat} (k:Nat) (hk:k≤n) (h:Rd w Z t xs (.slice A n c)):Rd w Z t (xs.take k) (.slice A k c):=by
 obtain⟨A',cap,cells,e,h1,h2,h3⟩:=h;cases e;have hl:(xs.take k).length=k:=by rw[fF2];omega
 refine⟨A,c,cells.take (k*t.sz),by rw[hl],by omega,RepL.take (fun _ _ h=>Ty.Rep.length h) h2 k,?_⟩;rcases h3 with⟨h3,h4⟩ | ⟨ad,h3,h4⟩
 ·subst h3;exact .inl ⟨by simp,h4⟩
 ·refine .inr ⟨ad,h3,fun j u hu=>h4 j u ?_⟩;rw[eH2]at hu;split at hu
  ·exact hu
  ·cases hu
theorem iB1 {t:Ty} {xs:List t.D} {A:Option Addr} {n c:Nat} (k:Nat) (hk:k≤n) (h:Rd w Z t xs (.slice A n c)):Rd w Z t (xs.drop k) (.slice (if c=k then A else A.map (·.add (k*t.sz))) (n-k) (c-k)):=by
 obtain⟨A',cap,cells,e,h1,h2,h3⟩:=h;cases e;refine⟨_,_,cells.drop (k*t.sz),by rw[fG2],by rw[fG2];omega,RepL.drop (fun _ _ h=>Ty.Rep.length h) h2 k,?_⟩;by_cases hc:c=k
 ·refine .inl ⟨List.drop_eq_nil_iff.2 (by omega),fun _=>by omega⟩
 ·rw[if_neg hc];rcases h3 with⟨h3,h4⟩ | ⟨ad,h3,h4⟩
  ·subst h3;refine .inl ⟨by simp,fun hA=>?_⟩;have:A=none:=by cases A <;> first | rfl | cases hA
   have:=h4 this;omega
  ·subst h3;refine .inr ⟨ad.add (k*t.sz),rfl,fun j u hu=>?_⟩;rw[xU];rw[jH2]at hu;exact h4 _ u hu
theorem cM {e:TypeId} {t:Ty} {xs:List t.D} {v:Value} (h:Rd w Z t xs v) (hz:xs≠[] → ∀k,blkV v=some k→Z k):(Ty.row e t).Rep w Z xs [v]:=by
 obtain⟨A,cap,cells,e,h1,h2,h3⟩:=h;subst e;refine⟨A,cap,cells,rfl,h1,h2,?_⟩;rcases h3 with h3 | ⟨ad,h3,h4⟩
 ·exact .inl h3
 ·subst h3;by_cases hx:xs=[]
  ·exact .inl ⟨hx,fun h=>by cases h⟩
  ·exact .inr ⟨ad,rfl,hz hx _ rfl,h4⟩
theorem vK {e:TypeId} {t:Ty} {xs:List t.D} {v:Value} (h:Rd w Z t xs v) (hz:∀k,blkV v=some k→Z k):(Ty.row e t).Rep w Z xs [v]:=cM h fun _=>hz
theorem yH {ob:List (Nat×Ob)} {e:TypeId} {t:Ty} {r:Nat} {xs:List t.D} (h:iK ob e t r=some xs):look ob r=some (.row e t xs):=by
 unfold iK at h
 cases hl:look ob r with
 | none=>rw[hl]at h;cases h
 | some o=>
  rw[hl]at h
  cases o with
  | box T l=>cases h
  | row e' t' ys=>
   obtain⟨e1,hx⟩:=aK h;cases e1;subst hx;rfl
theorem pY (hi:Inv w0 M Z0 w Z γ s.ob) {e:TypeId} {t:Ty} {r:Nat} {xs:List t.D} (h:look s.ob r=some (.row e t xs)):Rd w Z t xs (γ r):=by obtain⟨cs,h1,h2⟩:=hi.obs r _ h;exact mP1 h1 h2
theorem lB1 (hi:Inv w0 M Z0 w Z γ s.ob) {e:TypeId} {t:Ty} {c:Lf} {v:Value} {xs:List t.D} (hc:c.list s.ob e t=some xs) (h:LfOK w Z γ c v):Rd w Z t xs v:=by
 cases c with
 | v t' y=>
  obtain⟨e',hx⟩:=aK hc;subst e' hx;exact pZ1 h
 | nl=>cases hc;cases h;exact⟨none,0,[],rfl,rE2 _,rfl,.inl ⟨rfl,fun _=>rfl⟩⟩
 | o r=>rw[h.1];exact pY hi (yH hc)
 | oh r k=>
  obtain⟨ys,h1,h2⟩:=lF2.1 hc;cases h2;obtain⟨A,n,c,h3,h4,_,h5⟩:=h;have:=pY hi (yH h1);rw[h3]at this;rw[h4];exact kZ _ h5 this
 | ot r k z=>
  have hc':(if Nat.beq z t.sz=true then(iK s.ob e t r).bind fun xs=>some (xs.drop k.toNat)else none)=some xs:=hc;by_cases hz:Nat.beq z t.sz=true
  ·rw[if_pos hz]at hc';obtain⟨ys,h1,h2⟩:=lF2.1 hc';cases h2;obtain⟨A,n,c,h3,h4,_,h5⟩:=h;have:=pY hi (yH h1);rw[h3]at this;rw[h4,beqt.1 hz];exact iB1 _ h5 this
  ·rw[if_neg hz]at hc';cases hc'
 | _=>cases hc
theorem fD1 {T e:TypeId} {i:TypeInfo} (hT:P.underlying T=some (.slice e)) (hi:P.info? e=some i) (A:Option Addr) (len cap:Nat) {l h:Option Int} {lo hi':Option Value} (hl:Bd l lo) (hh:Bd h hi') (hlc:len≤cap)
  (h0:0≤l.getD 0) (h1:l.getD 0≤h.getD len) (h2:h.getD len≤len):
  (Instr.sliceAt T (.slice A len cap) lo hi' none).run P w = .ok (.slice (if cap=(l.getD 0).toNat then A else A.map (·.add ((l.getD 0).toNat*i.size))) ((h.getD len).toNat-(l.getD 0).toNat) (cap-(l.getD 0).toNat)) w:=by
 unfold Instr.sliceAt;simp only[Sem.run_bind,run_underlying hT,Result.andThen_ok]
 cases l with
 | none=>
  cases hl
  cases h with
  | none=>
   cases hh;simp[Instr.slice,run_underlying hT,Instr.sliceBounds,sizeOf,typeInfo,hi]
  | some h=>
   obtain⟨k,hh⟩:=hh;subst hh;simp only[zG2,Option.getD_none]at h1 h2;simp[Instr.slice,run_underlying hT,Instr.sliceBounds,sizeOf,typeInfo,hi,run_sliceBound w k h cap _ h1 (by omega)]
 | some l=>
  obtain⟨k,hl⟩:=hl;subst hl
  cases h with
  | none=>
   cases hh;simp only[zG2,Option.getD_none]at h0 h1 h2;simp[Instr.slice,run_underlying hT,Instr.sliceBounds,sizeOf,typeInfo,hi,run_sliceBound w k l len _ h0 h1]
  | some h=>
   obtain⟨k',hh⟩:=hh;subst hh;simp only[zG2]at h0 h1 h2;simp[Instr.slice,run_underlying hT,Instr.sliceBounds,sizeOf,typeInfo,hi,run_sliceBound w k' h cap _ (by omega) (by omega),run_sliceBound w k l h.toNat _ h0 (by omega)]
theorem tG1 {r:Nat} {e:TypeId} {t:Ty} {xs:List t.D} {c:Lf} {v:Value} (hr:Rd w Z t xs (γ r)) (h:LfOK w Z γ c v):LfOK w (fun k=>Z k∨blkV (γ r)=some k) γ (c.frz1 r e t xs) v:=by
 have hst:Stay w w Z (fun k=>Z k∨blkV (γ r)=some k):=Stay.more w fun k hk=>.inl hk
 have hr':Rd w (fun k=>Z k∨blkV (γ r)=some k) t xs (γ r):=by obtain⟨A,cap,cells,e,h1,h2,h3⟩:=hr;exact⟨A,cap,cells,e,h1,RepL.imp (fun _ _ h=>Ty.Rep.stay hst h) h2,h3⟩
 cases c with
 | o r'=>
  simp only[Lf.frz1];by_cases hb:Nat.beq r' r=true
  ·rw[if_pos hb];have:=beqt.1 hb;subst this;rw[h.1];exact vK hr' fun k hk=>.inr hk
  ·rw[if_neg hb];exact LfOK.keep hst h fun _ _=>rfl
 | oh r' k=>
  simp only[Lf.frz1];by_cases hb:Nat.beq r' r=true
  ·rw[if_pos hb];have:=beqt.1 hb;subst this;obtain⟨A,n,c,h3,h4,_,h5⟩:=h;have hr2:=hr';rw[h3]at hr2;rw[h4];have hr3:=kZ _ h5 hr2;rw[←h3]at hr3;exact vK hr3 fun j hj=>.inr (by rw[h3];cases A <;> simp[blkV]at hj ⊢ <;> exact hj)
  ·rw[if_neg hb];exact LfOK.keep hst h fun _ _=>rfl
 | ot r' k z=>
  simp only[Lf.frz1];by_cases hb:Nat.beq r' r=true
  ·rw[if_pos hb];have:=beqt.1 hb;subst this;by_cases hz:Nat.beq z t.sz=true
   ·rw[if_pos hz];have:=beqt.1 hz;subst this;obtain⟨A,n,c,h3,h4,_,h5⟩:=h;have hr2:=hr';rw[h3]at hr2;rw[h4];have hr3:=iB1 _ h5 hr2;rw[←h3]at hr3;exact vK hr3 fun j hj=>.inr (by rw[h3];cases A <;> revert hj <;> split <;> simp[blkV])
   ·rw[if_neg hz];trivial
  ·rw[if_neg hb];exact LfOK.keep hst h fun _ _=>rfl
 | _=>exact LfOK.keep hst h fun _ _=>rfl
theorem yA1 {r:Nat} {e:TypeId} {t:Ty} {xs:List t.D} {l:List Lf} {vs:List Value} (hr:Rd w Z t xs (γ r)) (h:All2 (LfOK w Z γ) l vs):All2 (LfOK w (fun k=>Z k∨blkV (γ r)=some k) γ) (l.map (Lf.frz1 r e t xs)) vs:=
 All2.map _ (fun _ _ _ h=>tG1 hr h) h
theorem yY1 {ob ob2:List (Nat×Ob)} {r:Nat} {e:TypeId} {t:Ty} {xs:List t.D} {x:Slot} {v:Value} (hr:Rd w Z t xs (γ r)) (h:SlotOK w Z γ ob x v)
  (hob:∀n E t ys,look ob2 n=some (.row E t ys)→look ob n=some (.row E t ys)):SlotOK w (fun k=>Z k∨blkV (γ r)=some k) γ ob2 (x.map (Lf.frz1 r e t xs)) v:=by
 cases x with
 | lf c=>exact tG1 hr h
 | ag l=>obtain⟨cs,e,h⟩:=h;exact⟨cs,e,yA1 hr h⟩
 | tp l=>
  obtain⟨vs,e,h⟩:=h;refine⟨vs,e,All2.map _ (fun y _ v h=>?_) h⟩;dsimp only;split at h
  ·rename_i hb;rw[if_pos hb];obtain⟨cs,e,h⟩:=h;exact⟨cs,e,yA1 hr h⟩
  ·rename_i hb;rw[if_neg hb];obtain⟨c,e,h⟩:=h;exact⟨_,by rw[e];rfl,tG1 hr h⟩
 | q l=>
  obtain⟨ad,vs,e,hz,h,hc⟩:=h;exact⟨ad,vs,e,.inl hz,yA1 hr h,hc⟩
 | e r i off=>
  intro E t xs hx;exact h E t xs (hob _ _ _ _ hx)
theorem aS1 (f:Slot→Slot) (hf:f (.lf .u) = .lf .u) (l:List Slot) (i:Nat):(l.map f).getD i (.lf .u)=f (l.getD i (.lf .u)):=by rw[oE2,oE2,hH2];cases l[i]? <;> simp[hf]
theorem nC1 {ob:List (Nat×Ob)} {f:Lf→Lf} {n:Nat} {E:TypeId} {t:Ty} {ys:List t.D} (h:look (ob.map fun x=>(x.1,x.2.map f)) n=some (.row E t ys)):look ob n=some (.row E t ys):=by
 rw[oI1]at h
 cases hl:look ob n with
 | none=>rw[hl]at h;cases h
 | some o=>
  rw[hl]at h
  cases o with
  | row E' t' ys'=>exact h
  | box T l=>cases h
theorem mI1 (hi:Inv w0 M Z0 w Z γ s.ob) {tm:Array Value} (hs:SlotsOK w Z γ s.ob s.sl tm) (r:Nat):
  ∃Z',(∀k,Z k→Z' k)∧Inv w0 M Z0 w Z' γ (s.frz r).ob∧SlotsOK w Z' γ (s.frz r).ob (s.frz r).sl tm∧(∀E t xs,look s.ob r=some (.row E t xs) → ∀k,blkV (γ r)=some k→Z' k):=by
 unfold St.frz
 cases hl:look s.ob r with
 | none=>exact⟨Z,fun _ h=>h,hi,hs,fun _ _ _ h=>by cases h⟩
 | some o=>
  cases o with
  | box T l=>exact⟨Z,fun _ h=>h,hi,hs,fun _ _ _ h=>by cases h⟩
  | row E t xs=>
   dsimp only;have hr:=pY hi hl;have hst:Stay w w Z (fun k=>Z k∨blkV (γ r)=some k):=Stay.more w fun k hk=>.inl hk
   have hlk:∀n o,look ((del s.ob r).map fun x=>(x.1,x.2.map (Lf.frz1 r E t xs))) n=some o→n≠r ∧ ∃o0,look s.ob n=some o0∧o=o0.map (Lf.frz1 r E t xs):=by
    intro n o h;rw[oI1,bI]at h;by_cases hn:r=n
    ·simp[hn]at h
    ·rw[if_neg hn]at h;obtain⟨o0,h1,h2⟩:=Option.map_eq_some_iff.1 h;exact⟨Ne.symm hn,o0,h1,h2.symm⟩
   refine⟨fun k=>Z k∨blkV (γ r)=some k,fun k h=>.inl h,⟨hi.frm,?_,?_,?_,?_,?_⟩,⟨by simpa using hs.len,fun i=>?_⟩,fun _ _ _ _ k hk=>.inr hk⟩
   ·rintro b (hb | hb)
    ·exact hi.zlt b hb
    ·obtain⟨cs,h1,_⟩:=hi.obs r _ hl;rcases h1.2 with⟨h2,_⟩ | ⟨g,cap,cur,h2,_,hg,_⟩
     ·rw[h2]at hb;cases hb
     ·rw[h2]at hb;cases hb;exact(eG2.1 hg).1
   ·rintro b (hb | hb) hlt
    ·exact hi.zold b hb hlt
    ·exact .inr ((hi.own r _ b hl hb).2 hlt)
   ·intro n o h;obtain⟨_,o0,h1,h2⟩:=hlk n o h;subst h2;have:=hi.obs n o0 h1
    cases o0 with
    | row E' t' ys=>obtain⟨cs,h3,h4⟩:=this;exact⟨cs,h3,RepL.imp (fun _ _ h=>Ty.Rep.stay hst h) h4⟩
    | box T l=>obtain⟨g,cur,h3,h4,h5⟩:=this;exact⟨g,cur,h3,h4,yA1 hr h5⟩
   ·intro n m o o' b h h' hb hb';obtain⟨_,o0,h1,_⟩:=hlk n o h;obtain⟨_,o0',h1',_⟩:=hlk m o' h';exact hi.disj n m o0 o0' b h1 h1' hb hb'
   ·intro n o b h hb;obtain⟨hn,o0,h1,_⟩:=hlk n o h;have:=hi.own n o0 b h1 hb;refine⟨?_,this.2⟩;rintro(hz | hz)
    ·exact this.1 hz
    ·exact hn (hi.disj n r o0 _ b h1 hl hb hz)
   ·rw[aS1 _ rfl]
    exact yY1 hr (hs.ok i) fun n E' t' ys h=>by
     have:=nC1 h;rw[bI]at this;by_cases hn:r=n
     ·simp[hn]at this
     ·rwa[if_neg hn]at this
theorem vL :∀(l:List Lf) {Z:Nat→Prop} {s:St} (_:Inv w0 M Z0 w Z γ s.ob) {tm:Array Value} (_:SlotsOK w Z γ s.ob s.sl tm),
  ∃Z',(∀k,Z k→Z' k)∧Inv w0 M Z0 w Z' γ (s.frzAll l).ob∧SlotsOK w Z' γ (s.frzAll l).ob (s.frzAll l).sl tm
 | [],Z,_,hi,_,hs=>⟨Z,fun _ h=>h,hi,hs⟩
 | c::l,Z,s,hi,tm,hs=>by
  have step:∀r,(∃Z',(∀k,Z k→Z' k)∧Inv w0 M Z0 w Z' γ ((s.frz r).frzAll l).ob∧SlotsOK w Z' γ ((s.frz r).frzAll l).ob ((s.frz r).frzAll l).sl tm):=by intro r;obtain⟨Z1,h1,h2,h3,_⟩:=mI1 hi hs r;obtain⟨Z2,h4,h5,h6⟩:=vL l h2 h3;exact⟨Z2,fun k h=>h4 k (h1 k h),h5,h6⟩
  cases c <;> first | exact step _ | exact vL l hi hs
theorem bD2 (s:St) (r:Nat):(s.frz r).b=s.b:=by unfold St.frz;split <;> rfl
theorem qO :∀(l:List Lf) (s:St),(s.frzAll l).b=s.b
 | [],_=>rfl
 | c::l,s=>by cases c <;> first | exact qO l s | exact(qO l _).trans (bD2 s _)
theorem Does.after {s':St} {v:Value} (hi:Inv w0 M Z0 w Z γ s'.ob) (hs:SlotsOK w Z γ s'.ob s'.sl a.tmps)
  (hr:(execOp a.eval o).run P w = .ok (.value v) w) (hx:SlotOK w Z γ s'.ob x v):Does P w0 M Z0 w γ a o s' x s'.ob:=⟨v,w,Z,γ,.inl hr,hi,hx,hs,fun _ _ _=>rfl⟩
theorem cO {T e:TypeId} {t:Ty} (hT:tyOK P (.row e t) T=true) {xs:List t.D} {A:Option Addr} {n c:Nat} (hv:Rd w Z t xs (.slice A n c)) {l h:Option Int} {lo hi':Option Value} (hl:Bd l lo) (hh:Bd h hi')
  {g:List Bool} {y:Lf} (he:lT e t xs l h=(g,y)) (hg:g.all id=true):
  ∃L H,0≤L∧L≤H∧H≤n∧(l=none→L=0)∧(h=none→H=n)∧(∀z,l=some z→0≤z∧z.toNat=L)∧(∀z,h=some z→0≤z∧z.toNat=H) ∧
   (Instr.sliceAt T (.slice A n c) lo hi' none).run P w = .ok (.slice (if c=L then A else A.map (·.add (L*t.sz))) (H-L) (c-L)) w ∧
   y = .v (.row e t) ((xs.take H).drop L:List t.D)∧Rd w Z t ((xs.take H).drop L) (.slice (if c=L then A else A.map (·.add (L*t.sz))) (H-L) (c-L)):=by
 obtain⟨hu,hsz,hte⟩:=gF hT;obtain⟨i,hinfo,hio⟩:=aG hte;obtain⟨hisz,_⟩:=aF (w:=w) (Z:=Z) (fun _=>undef) hio;obtain⟨A',cap,cells,e1,h1,h2,h3⟩:=id hv;cases e1;have hb:0≤l.getD 0∧l.getD 0≤h.getD xs.length∧h.getD xs.length≤(xs.length:Int):=by cases l <;> cases h <;> cases he <;> simp only[kH2,List.all_nil,id,zH2,iE2,decide_eq_true_eq]at hg <;> simp only[Option.getD_none,zG2] <;> omega
 have hrun:=fD1 (P:=P) (w:=w) hu hinfo A xs.length c hl hh h1 hb.1 hb.2.1 hb.2.2;rw[hisz]at hrun;have hrd:=iB1 (l.getD 0).toNat (by omega) (kZ (h.getD xs.length).toNat (by omega) hv);refine⟨(l.getD 0).toNat,(h.getD xs.length).toNat,by omega,by omega,by omega,?_,?_,?_,?_,hrun,?_,hrd⟩
 ·rintro rfl;rfl
 ·rintro rfl;simp
 ·rintro z rfl;exact⟨hb.1,rfl⟩
 ·rintro z rfl;exact⟨by have:=hb.2.1;have:=hb.1;simp only[zG2]at *;omega,rfl⟩
 ·cases l <;> cases h <;> cases he <;> simp
theorem kA1 {Z':Nat→Prop} {t:Ty} {xs:List t.D} {v:Value} (hz:∀k,Z k→Z' k) (h:Rd w Z t xs v):Rd w Z' t xs v:=by obtain⟨A,cap,cells,e,h1,h2,h3⟩:=h;exact⟨A,cap,cells,e,h1,RepL.imp (fun _ _ h=>Ty.Rep.stay (Stay.more w hz) h) h2,h3⟩
theorem lL1 (henv:kF P E=true) {T:TypeId} {y:Operand} {lo hi' mx:Option Operand} (ho:o.op = .slice T y lo hi' mx) (h:step E s o=some (s1,.go g x ob')) (hg:g.all id=true) (hi:Inv w0 M Z0 w Z γ s.ob) (hs:SlotsOK w Z γ s.ob s.sl a.tmps):Does P w0 M Z0 w γ a o s1 x ob':=by
 cases mx with
 | some m=>simp only[step,ho]at h;cases h
 | none=>
  simp only[step,ho]at h;split at h
  ·rename_i z l h' h1 h2 h3;split at h
   ·rename_i hT;cases h;exact bA1 henv ho h1 h2 h3 hT rfl hg hi hs
   ·cases h
  ·rename_i c l h' _ h1 h2 h3;split at h
   ·rename_i e t hT;split at h
    ·rename_i xs hxs;have hty:=uE henv (fQ hT);have hc:=wE h1 hs;have hrd:=lB1 hi hxs hc;have bl:=qQ h2 hs;have bh:=qQ h3 hs;have hrunop:∀v w',(Instr.sliceAt T (a.eval y) (lo.map a.eval) (hi'.map a.eval) none).run P w = .ok v w'→(execOp a.eval o).run P w = .ok (.value v) w':=by intro v w' hv;simp only[execOp,ho,Option.map_none,Sem.run_bind,hv];rfl
     obtain⟨A,cap,cells,ev,_⟩:=id hrd
     cases hsr:lT e t xs l h' with
     | mk g' y'=>
      rw[hsr]at h;rw[ev]at hrd hrunop
      cases c with
      | v t' z=>
       dsimp only at h;cases h;obtain⟨L,H,_,hLH,hHn,_,_,_,_,hrun,hy,hrd'⟩:=cO hty hrd bl bh hsr hg;obtain⟨e2,hx⟩:=aK hxs;subst e2;subst hx;refine Does.pure _ hi hs (hrunop _ _ hrun) ?_;rw[hy];refine cM hrd' fun hne k hk=>?_
       obtain⟨A2,cap2,n2,e3,_,_,h5⟩:=hc;rw[ev]at e3;cases e3;rcases h5 with⟨h5,_⟩ | ⟨ad,h5,h6,_⟩
       ·exact absurd (by rw[h5];simp) hne
       ·subst h5
        revert hk
        split <;> simp only[blkV,Option.map_some,Option.some.injEq,wC1] <;> rintro rfl <;> exact h6
      | nl=>
       dsimp only at h;cases h;cases hxs;obtain⟨L,H,_,hLH,hHn,_,_,_,_,hrun,hy,hrd'⟩:=cO hty hrd bl bh hsr hg;refine Does.pure _ hi hs (hrunop _ _ hrun) ?_;rw[hy];exact cM hrd' fun hne=>absurd (by simp) hne
      | o r=>
       have hlk:=yH hxs;have hγ:γ r = .slice A xs.length cap:=by rw[←hc.1,ev]
       cases l with
       | none=>
        cases h' with
        | none=>
         dsimp only at h;cases h;obtain⟨L,H,_,hLH,hHn,_,_,_,_,hrun,hy,hrd'⟩:=cO hty hrd bl bh hsr hg;obtain⟨Z',hz,hi',hs',hzr⟩:=mI1 hi hs r;refine Does.after hi' hs' (hrunop _ _ hrun) ?_;rw[hy];refine cM (kA1 hz hrd') fun _ k hk=>hzr _ _ _ hlk k ?_
         rw[hγ]
         revert hk
         cases A <;> split <;> simp[blkV]
        | some h'=>
         dsimp only at h;cases h;obtain⟨L,H,_,hLH,hHn,hL,_,_,hH,hrun,hy,hrd'⟩:=cO hty hrd bl bh hsr hg;refine Does.pure _ hi hs (hrunop _ _ hrun) ?_;have:=hL rfl;subst this;obtain⟨hh0,hh1⟩:=hH h' rfl;subst hh1;refine⟨A,xs.length,cap,hγ,?_,hh0,hHn⟩
         congr 1
         cases A <;> simp
       | some l=>
        cases h' with
        | none=>
         dsimp only at h;cases h;obtain⟨L,H,_,hLH,hHn,_,hH,hL,_,hrun,hy,hrd'⟩:=cO hty hrd bl bh hsr hg;refine Does.pure _ hi hs (hrunop _ _ hrun) ?_;have:=hH rfl;subst this;obtain⟨hh0,hh1⟩:=hL l rfl;subst hh1;exact⟨A,xs.length,cap,hγ,rfl,hh0,hLH⟩
        | some h'=>
         dsimp only at h;cases h;obtain⟨L,H,_,hLH,hHn,_,_,_,_,hrun,hy,hrd'⟩:=cO hty hrd bl bh hsr hg;obtain⟨Z',hz,hi',hs',hzr⟩:=mI1 hi hs r;refine Does.after hi' hs' (hrunop _ _ hrun) ?_;rw[hy];refine cM (kA1 hz hrd') fun _ k hk=>hzr _ _ _ hlk k ?_
         rw[hγ]
         revert hk
         cases A <;> split <;> simp[blkV]
      | _=>cases h
    ·cases h
   ·cases h
  ·cases h
theorem yY {t:Ty} {xs:List t.D} {A:Option Addr} {n c:Nat} (h:Rd w Z t xs (.slice A n c)) {i:Nat} (hi:i<xs.length):
  ∃ad cs,A=some ad∧t.Rep w Z (xs.getD i t.z) cs ∧ ∀j u,cs[j]?=some u→w.cell? (ad.add (i*t.sz+j))=some u:=by
 obtain⟨A',cap,cells,e,h1,h2,h3⟩:=h;cases e;obtain⟨cs,h4,h5⟩:=RepL.getElem (fun _ _ h=>Ty.Rep.length h) h2 i xs[i] (sE2 hi);rcases h3 with⟨h3,_⟩ | ⟨ad,h3,h6⟩
 ·subst h3;simp at hi
 ·refine⟨ad,cs,h3,?_,fun j u hu=>h6 _ u (h5 j u hu)⟩;rwa[oE2,sE2 hi,zG2]
theorem cY1 (ob:List (Nat×Ob)) (e:TypeId) (t:Ty) (r:Nat) (l:Int) (z:Nat):(Lf.ot r l z).list ob e t=if Nat.beq z t.sz=true then(iK ob e t r).bind fun xs=>some (xs.drop l.toNat)else none:=rfl
theorem dZ1 (hi:Inv w0 M Z0 w Z γ s.ob) {e:TypeId} {t:Ty} {r:Nat} {l:Int} {z:Nat} {xs:List t.D} (hxs:Lf.list s.ob e t (.ot r l z)=some xs) {A:Option Addr} {cap:Nat} (hc:LfOK w Z γ (.ot r l z) (.slice A xs.length cap))
  {n:Int} (h3:0≤n) (h4:n<xs.length) {ad:Addr} (hA:A=some ad):SlotOK w Z γ s.ob (.e r (l+n) 0) (.pointer (some (ad.add (n.toNat*t.sz)))):=by
 rw[cY1]at hxs;split at hxs
 ·rename_i hzz;have hzz:=beqt.1 hzz;subst hzz;obtain⟨xs0,hr0,hx0⟩:=lF2.1 hxs;have hx0:xs0.drop l.toNat=xs:=oF2 hx0;subst hx0;have hlk:=yH hr0;rw[fG2]at h4;intro E' t' xs' hx;rw[hlk]at hx;cases hx;obtain⟨A0,n0,c0,h5,h6,h7,h8⟩:=hc;obtain⟨cs',h9,_⟩:=hi.obs r _ hlk;rw[h5]at h9;rcases h9.2 with⟨e1,e2⟩ | ⟨gg,cap',cur,e1,_,_,hnc,_⟩
  ·omega
  ·obtain⟨rfl,rfl,rfl⟩:=Value.slice.inj e1;have hlt:(l+n).toNat<xs0.length:=by omega
   have hnn:0≤l+n:=by omega
   refine⟨hnn,hlt,gg,_,_,h5,?_⟩;have hne:¬c0=l.toNat:=by omega
   have h6':=(Value.slice.inj h6).1;rw[if_neg hne,hA]at h6';have h6':=oF2 h6';rw[h6',xU,Addr.add_lit];have:0+(l.toNat*t.sz+n.toNat*t.sz)=(l+n).toNat*t.sz+0:=by
    rw[xG2,Nat.add_zero,←Nat.add_mul]
    congr 1
    omega
   rw[this]
 ·cases hxs
theorem uW (henv:kF P E=true) {T:TypeId} {y z:Operand} (ho:o.op = .indexAddr T y z) (h:step E s o=some (s1,.go g x ob')) (hg:g.all id=true) (hi:Inv w0 M Z0 w Z γ s.ob) (hs:SlotsOK w Z γ s.ob s.sl a.tmps):Does P w0 M Z0 w γ a o s1 x ob':=by
 simp only[step,ho]at h;split at h
 ·rename_i e t c ci hT h1 h2;split at h
  ·rename_i xs k n hxs hn;cases Lf.int_v hn;have hty:=uE henv (fQ hT);obtain⟨hu,hsz,hte⟩:=gF hty;obtain⟨i,hinfo,hio⟩:=aG hte;obtain⟨hisz,_⟩:=aF (w:=w) (Z:=Z) γ hio;have hc:=wE h1 hs;have hrd:=lB1 hi hxs hc;have key:g.all id=true→g=[decide (0≤n),decide (n<xs.length)]→0≤n∧n<xs.length:=by rintro hg rfl;simpa only[kH2,List.all_nil,id,zH2,iE2,decide_eq_true_eq]using hg
   obtain⟨A,cap,cells,ev,hrd0⟩:=id hrd;rw[ev]at hrd;have hrun:∀ad,A=some ad→0≤n∧n<xs.length→(execOp a.eval o).run P w = .ok (.value (.pointer (some (ad.add (n.toNat*t.sz))))) w:=by rintro ad rfl ⟨h3,h4⟩;simp[execOp,ho,ev,bN h2 hs,Instr.indexAt,asIntOf,run_underlying hu,h3,h4,sizeOf,typeInfo,hinfo,hisz]
   cases c with
   | o r=>
    dsimp only at h;cases h;obtain⟨h3,h4⟩:=key hg rfl;obtain⟨ad,cs,hA,_,_⟩:=yY hrd (i:=n.toNat) (by omega);refine Does.pure _ hi hs (hrun ad hA ⟨h3,h4⟩) ?_;have hlk:=yH hxs;intro E' t' xs' hx;rw[hlk]at hx;cases hx;obtain⟨cs',h5,_⟩:=hi.obs r _ hlk;have hγ:γ r = .slice A xs.length cap:=by rw[←hc.1,ev]
    rcases h5.2 with⟨h6,_⟩ | ⟨gg,cap',cur,h6,_⟩
    ·rw[hγ,hA]at h6;cases h6
    ·rw[hγ]at h6;cases h6;cases hA;refine⟨h3,by omega,gg,xs.length,cap,hγ,?_⟩;rw[Addr.add_lit];simp
   | v t' m=>
    dsimp only at h;cases h;obtain⟨h3,h4⟩:=key hg rfl;obtain⟨ad,cs,hA,hrep,hcs⟩:=yY hrd (i:=n.toNat) (by omega);refine Does.pure _ hi hs (hrun ad hA ⟨h3,h4⟩) ?_;obtain⟨e2,hx⟩:=aK hxs;subst e2;subst hx;refine⟨_,cs,rfl,?_,yL γ hrep,fun j u hu=>?_⟩
    ·rw[wC1];obtain⟨A2,cap2,n2,e3,_,_,h5⟩:=hc;rw[ev]at e3;cases e3;rcases h5 with⟨h5,_⟩ | ⟨ad',h5,h6,_⟩
     ·rw[h5]at h4;simp at h4;omega
     ·rw[hA]at h5;cases h5;exact h6
    ·rw[xU];exact hcs j u hu
   | ot r l z=>
    dsimp only at h;cases h;obtain⟨h3,h4⟩:=key hg rfl;obtain⟨ad,cs,hA,hrep,hcs⟩:=yY hrd (i:=n.toNat) (by omega);rw[ev]at hc;exact Does.pure _ hi hs (hrun ad hA ⟨h3,h4⟩) (dZ1 hi hxs hc h3 h4 hA)
   | _=>cases h
  ·cases h
 ·cases h
theorem sW (henv:kF P E=true) {T:TypeId} {y:Operand} {f:Nat} (ho:o.op = .fieldAddr T y f) (h:step E s o=some (s1,.go g x ob')) (hi:Inv w0 M Z0 w Z γ s.ob) (hs:SlotsOK w Z γ s.ob s.sl a.tmps):Does P w0 M Z0 w γ a o s1 x ob':=by
 simp only[step,ho]at h;split at h
 ·rename_i fs ht;split at h
  ·rename_i t hft;split at h
   ·rename_i hsz;have hsz:=rF2 hsz;obtain⟨fl,hu,hfl⟩:=wM (uE henv ht);obtain⟨fd,h1,h2,h3⟩:=fT hfl hft;rw[xG2]at h2;obtain⟨i,hinfo,his⟩:=(vN h3).info;have h1':fl[f]?=some fd:=by simpa using h1
    have hrun:∀ad,a.eval y = .pointer (some ad)→(execOp a.eval o).run P w = .ok (.value (.pointer (some (ad.add (fs.off f))))) w:=by
     intro ad hv;have hn:¬i.size=0:=by omega
     simp[execOp,ho,hv,Instr.fieldAt,run_underlying hu,h1',Instr.sureAddr,fieldPlace,sizeOf,typeInfo,hinfo,hn,h2]
    split at h
    ·rename_i b off hb;cases h;obtain⟨gg,h4,h5⟩:=wE hb hs;refine Does.pure _ hi hs (hrun _ h5) ⟨gg,h4,?_⟩;rw[Addr.add_lit]
    ·rename_i l hb;cases h;obtain⟨ad,vs,h4,h5,h6,h7⟩:=gG hb hs;refine Does.pure _ hi hs (hrun _ h4) ⟨ad.add (fs.off f),vs.drop (fs.off f),rfl,by simpa using h5,All2.drop _ h6,fun j u hu=>?_⟩;rw[jH2]at hu;rw[xU];exact h7 _ u hu
    ·rename_i r i' off hb;have h4:=gG hb hs;split at h
     ·rename_i e t' xs hl;cases h;obtain⟨h5,h6,gg,n',c',h7,h8⟩:=h4 e t' xs hl;refine Does.pure _ hi hs (hrun _ h8) fun e2 t2 xs2 hl2=>?_
      rw[hl]at hl2;cases hl2;refine⟨h5,h6,gg,n',c',h7,?_⟩;rw[Addr.add_lit,Nat.add_assoc]
     ·cases h
    ·cases h
   ·cases h
  ·cases h
 ·cases h
theorem uA1 {g' off:Nat} {cur:Array Value} {T:TypeId} {fr:Nat×Nat} (hg:w.heap[g']?=some (.cells cur T fr)):∀j u,(cur.toList.drop off)[j]?=some u→w.cell? ((⟨g',off,none⟩:Addr).add j)=some u:=by intro j u hu;rw[Addr.add_lit,cell_of_row w g' (off+j) cur T fr hg];rw[jH2]at hu;simpa using hu
theorem wQ1 (henv:kF P E=true) {T:TypeId} {y:Operand} (ho:o.op = .load T y) (h:step E s o=some (s1,.go g x ob')) (hi:Inv w0 M Z0 w Z γ s.ob) (hs:SlotsOK w Z γ s.ob s.sl a.tmps):Does P w0 M Z0 w γ a o s1 x ob':=by
 simp only[step,ho]at h;split at h
 ·cases h
 ·rename_i ag n hc;have hct:=wZ henv hc;have hrun:∀(ad:Addr) (cs:List Value),a.eval y = .pointer (some ad)→n≤cs.length→(∀j u,cs[j]?=some u→w.cell? (ad.add j)=some u)→(execOp a.eval o).run P w = .ok (.value (gI ag (cs.take n))) w:=by
   intro ad cs hv hl hcs
   have:=dP (P:=P) (w:=w) hct ad (cs.take n) (by rw[fF2];omega) fun j u hu=>hcs j u (by
    rw[eH2]at hu;split at hu
    ·exact hu
    ·cases hu)
   simp only[execOp,ho,hv,Instr.loadAt,Instr.sureAddr,Sem.run_bind,Sem.run_pure,Result.andThen_ok,this]
  split at h
  ·rename_i b off hb;split at h
   ·rename_i U c hl;split at h
    ·rename_i z hz;cases h;obtain⟨gg,h4,h5⟩:=wE hb hs;obtain⟨g2,cur,h6,h7,h8⟩:=hi.obs b _ hl;rw[h4]at h6;cases h6;obtain⟨hn,hsl⟩:=vQ (ob:=s.ob) hz (All2.drop off h8);exact Does.pure _ hi hs (hrun _ _ h5 hn (uA1 h7)) hsl
    ·cases h
   ·cases h
  ·rename_i l hb;split at h
   ·rename_i z hz;cases h;obtain⟨ad,vs,h4,h5,h6,h7⟩:=gG hb hs;obtain⟨hn,hsl⟩:=vQ (ob:=s.ob) hz h6;exact Does.pure _ hi hs (hrun _ _ h4 hn h7) hsl
   ·cases h
  ·rename_i r i off hb;split at h
   ·rename_i e t xs hl;split at h
    ·rename_i z hz;cases h;obtain⟨h4,h5,gg,n',c',h6,h7⟩:=gG hb hs e t xs hl;have hrd:=pY hi hl;rw[h6]at hrd;obtain⟨ad,cs,h8,h9,h10⟩:=yY hrd h5;cases h8;obtain⟨hn,hsl⟩:=vQ (ob:=s.ob) hz (All2.drop off (yL γ h9));refine Does.pure _ hi hs (hrun _ _ h7 hn fun j u hu=>?_) hsl;rw[jH2]at hu;have:=h10 _ u hu;rw[Addr.add_lit]at this ⊢;rw[←this]
     congr 2
     omega
    ·cases h
   ·cases h
  ·cases h
theorem dU1 (henv:kF P E=true) {c:Call} (ho:o.op = .call c) (hb:c.callee = .builtin .len) (h:step E s o=some (s1,.go g x ob')) (hi:Inv w0 M Z0 w Z γ s.ob) (hs:SlotsOK w Z γ s.ob s.sl a.tmps):Does P w0 M Z0 w γ a o s1 x ob':=by
 simp only[step,ho,hb]at h;split at h
 ·rename_i y hy;have hargs:c.args = #[y]:=by rw[←dG2 (xs:=c.args),hy]
  split at h
  ·rename_i l hl;split at h
   ·rename_i hk;split at h
    ·rename_i n hn;cases h;have hlf:=wE hl hs;have hts:∀T,c.argTypes.toList=[T]→c.argTypes = #[T]:=fun T hT=>by rw[←dG2 (xs:=c.argTypes),hT]
     have hsl:∀A m cp,a.eval y = .slice A m cp→(m:Int)=n→(∃T,c.argTypes.toList=[T] ∧ ∃e,P.underlying T=some (.slice e))→Does P w0 M Z0 w γ a o s (.lf (.v (.int .i64) n)) s.ob:=by rintro A m cp hv rfl ⟨T,hT,e,hu⟩;refine Does.pure (.int .i64 m) hi hs ?_ rfl;simp[execOp,ho,resolve,hb,invoke,builtin,hargs,hv,Builtin.len_,hts T hT,run_underlying hu,goInt]
     have hrow:(match c.argTypes.toList with | [T]=>(match E.rowT T with | some _=>true | none=>false) | _=>false)=true → ∃T,c.argTypes.toList=[T] ∧ ∃e,P.underlying T=some (.slice e):=by
      intro hk;split at hk
      ·rename_i T hT;split at hk
       ·rename_i et het;exact⟨T,hT,et.1,(gF (uE henv (fQ het))).1⟩
       ·cases hk
      ·cases hk
     cases l with
     | v t m=>
      cases t with
      | str=>
       cases hn;simp only[tZ1]at hk;split at hk
       ·rename_i T hT;have hu:=yS henv hk;refine Does.pure (.int .i64 (m:ByteArray).size) hi hs ?_ rfl;simp[execOp,ho,resolve,hb,invoke,builtin,hargs,oT hl hs,Builtin.len_,hts T hT,run_underlying hu,goInt]
       ·cases hk
      | row e t=>
       cases hn;obtain⟨A,cap,news,e1,_⟩:=hlf;exact hsl A _ cap (by simpa using e1) rfl (hrow hk)
      | _=>cases hn
     | nl=>cases hn;exact hsl none 0 0 hlf rfl (hrow hk)
     | o r=>
      simp only[Lf.len]at hn;split at hn
      ·rename_i e t xs hlk;cases hn;obtain⟨A,cap,cells,e1,_⟩:=pY hi hlk;exact hsl A _ cap (by rw[hlf.1,e1]) rfl (hrow hk)
      ·cases hn
     | ot r j z=>
      simp only[Lf.len]at hn;split at hn
      ·rename_i e t xs hlk;cases hn;obtain⟨A,n0,cap,e1,e2,_,_⟩:=hlf;obtain⟨cs,how,_⟩:=hi.obs r _ hlk;rw[e1]at how;have hnn:n0=xs.length:=by
        rcases how.2 with⟨e3,e4⟩ | ⟨_,_,_,e3,_⟩
        ·cases e3;exact e4.symm
        ·cases e3;rfl
       subst hnn;exact hsl _ _ _ e2 rfl (hrow hk)
      ·cases hn
     | _=>cases hn
    ·cases h
   ·cases h
  ·cases h
 ·cases h
theorem wD1 (mx:Bool):∀(l:List Slot) (vs:List Value) (k:IntKind) (x:Int) (k':IntKind) (n:Int),uS.go mx k x l=some (k',n)→All2 (SlotOK w Z γ s.ob) l vs →
  k'=k∧(vs.foldlM (if mx=true then Builtin.max2 else Builtin.min2) (.int k x)).run P w = .ok (.int k n) w
 | [],[],k,x,k',n,h,_=>by simp only[uS.go]at h;cases h;exact⟨rfl,rfl⟩
 | y::l,v::vs,k,x,k',n,h,hv=>by
  cases y with
  | lf c=>
   cases c with
   | v t m=>
    cases t with
    | int k2=>
     simp only[uS.go]at h;obtain⟨h1,h2⟩:=wD1 mx l vs k (mm mx x m) k' n h hv.2;refine⟨h1,?_⟩;have hve:v = .int k2 m:=by have:=hv.1;simpa only[SlotOK,LfOK,Ty.Rep,List.cons.injEq,and_true]using this
     subst hve;rw[List.foldlM_cons,Sem.run_bind]
     cases mx with
     | true=>
      have:(Builtin.max2 (.int k x) (.int k2 m)).run P w = .ok (.int k (mm true x m)) w:=rfl;simp only[if_true]at h2 ⊢;rw[this];exact h2
     | false=>
      have:(Builtin.min2 (.int k x) (.int k2 m)).run P w = .ok (.int k (mm false x m)) w:=rfl;simp only[pF2,if_false]at h2 ⊢;rw[this];exact h2
    | _=>cases h
   | _=>cases h
  | _=>cases h
 | [],_::_,_,_,_,_,_,hv=>hv.elim
 | _::_,[],_,_,_,_,_,hv=>hv.elim
theorem mW (mx:Bool) {c:Call} (ho:o.op = .call c) (hb:c.callee = .builtin (if mx=true then .max else .min)) (h:step E s o=some (s1,.go g x ob')) (hi:Inv w0 M Z0 w Z γ s.ob) (hs:SlotsOK w Z γ s.ob s.sl a.tmps):Does P w0 M Z0 w γ a o s1 x ob':=by
 have key:∀l k n,s.cellsOf c.args.toList=some l→uS mx l=some (k,n)→Does P w0 M Z0 w γ a o s (.lf (.v (.int k) n)) s.ob:=by
  intro l k n hl hn;have hv:=mO hl hs
  cases l with
  | nil=>simp[uS]at hn
  | cons y l=>
   cases hvs:c.args.toList.map a.eval with
   | nil=>rw[hvs]at hv;exact hv.elim
   | cons v vs=>
    rw[hvs]at hv
    cases y with
    | lf d=>
     cases d with
     | v t m=>
      cases t with
      | int k1=>
       simp only[uS]at hn;obtain⟨h1,h2⟩:=wD1 (P:=P) mx l vs k1 m k n hn hv.2;subst h1;have hve:v = .int k m:=by have:=hv.1;simpa only[SlotOK,LfOK,Ty.Rep,List.cons.injEq,and_true]using this
       subst hve;refine Does.pure (.int k n) hi hs ?_ rfl;have hargs:(c.args.map a.eval).toList = .int k m::vs:=by rw[←hvs];simp
       cases mx with
       | true=>
        simp only[if_true]at h2 hb;simp[execOp,ho,resolve,hb,invoke,builtin,Builtin.max_,hvs,h2]
       | false=>
        simp only[pF2,if_false]at h2 hb;simp[execOp,ho,resolve,hb,invoke,builtin,Builtin.min_,hvs,h2]
      | _=>cases hn
     | _=>cases hn
    | _=>cases hn
 cases mx with
 | true=>
  simp only[if_true]at hb;simp only[step,ho,hb]at h;split at h
  ·rename_i l hl;split at h
   ·rename_i k n hn;cases h;exact key l k n hl hn
   ·cases h
  ·cases h
 | false=>
  simp only[pF2,if_false]at hb;simp only[step,ho,hb]at h;split at h
  ·rename_i l hl;split at h
   ·rename_i k n hn;cases h;exact key l k n hl hn
   ·cases h
  ·cases h
end
end Go.GV
