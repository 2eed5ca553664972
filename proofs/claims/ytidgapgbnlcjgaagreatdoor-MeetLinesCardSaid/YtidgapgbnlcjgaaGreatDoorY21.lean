/-
Part of the words that the laws of this seat are proved with: no statement of its own, no conditions.
-/
import Derived.Test.YtidgapgbnlcjgaaGreatDoorY20
set_option linter.unusedVariables false
set_option linter.unusedSimpArgs false
namespace Go.GV.YtidgapgbnlcjgaaGreatDoor
open Go.Proofs
inductive Up where
 | fr (x:Int)
 | iv (x:Int)
 | ct (x:Int)
 | un (x:Int)
 | dy (x:List Dy)
 | wk (x:Int)
 | mo (x:List Int)
 | we (x:List Int)
 | yd (x:List Int)
 | md (x:List Int)
 | ho (x:List Int)
 | mi (x:List Int)
 | se (x:List Int)
 | po (x:List Int)
def Up.key :Up→List UInt8
 | .fr _=>[70,82,69,81]
 | .iv _=>[73,78,84,69,82,86,65,76]
 | .ct _=>[67,79,85,78,84]
 | .un _=>[85,78,84,73,76]
 | .dy _=>[66,89,68,65,89]
 | .wk _=>[87,75,83,84]
 | .mo _=>[66,89,77,79,78,84,72]
 | .we _=>[66,89,87,69,69,75,78,79]
 | .yd _=>[66,89,89,69,65,82,68,65,89]
 | .md _=>[66,89,77,79,78,84,72,68,65,89]
 | .ho _=>[66,89,72,79,85,82]
 | .mi _=>[66,89,77,73,78,85,84,69]
 | .se _=>[66,89,83,69,67,79,78,68]
 | .po _=>[66,89,83,69,84,80,79,83]
def Up.ap :Up→Rl→Rl
 | .fr x,(_,r1,r2,r3,r4,r5,r6,r7,r8,r9,r10,r11,r12,r13,r14,())=>(x,r1,r2,r3,r4,r5,r6,r7,r8,r9,r10,r11,r12,r13,r14,())
 | .iv x,(r0,_,r2,r3,r4,r5,r6,r7,r8,r9,r10,r11,r12,r13,r14,())=>(r0,x,r2,r3,r4,r5,r6,r7,r8,r9,r10,r11,r12,r13,r14,())
 | .ct x,(r0,r1,_,r3,r4,r5,r6,r7,r8,r9,r10,r11,r12,r13,r14,())=>(r0,r1,x,r3,r4,r5,r6,r7,r8,r9,r10,r11,r12,r13,r14,())
 | .un x,(r0,r1,r2,_,r4,_,r6,r7,r8,r9,r10,r11,r12,r13,r14,())=>(r0,r1,r2,x,r4,true,r6,r7,r8,r9,r10,r11,r12,r13,r14,())
 | .dy x,(r0,r1,r2,r3,r4,r5,r6,r7,r8,r9,_,r11,r12,r13,r14,())=>(r0,r1,r2,r3,r4,r5,r6,r7,r8,r9,x,r11,r12,r13,r14,())
 | .wk x,(r0,r1,r2,r3,_,r5,r6,r7,r8,r9,r10,r11,r12,r13,r14,())=>(r0,r1,r2,r3,x,r5,r6,r7,r8,r9,r10,r11,r12,r13,r14,())
 | .mo x,(r0,r1,r2,r3,r4,r5,_,r7,r8,r9,r10,r11,r12,r13,r14,())=>(r0,r1,r2,r3,r4,r5,x,r7,r8,r9,r10,r11,r12,r13,r14,())
 | .we x,(r0,r1,r2,r3,r4,r5,r6,_,r8,r9,r10,r11,r12,r13,r14,())=>(r0,r1,r2,r3,r4,r5,r6,x,r8,r9,r10,r11,r12,r13,r14,())
 | .yd x,(r0,r1,r2,r3,r4,r5,r6,r7,_,r9,r10,r11,r12,r13,r14,())=>(r0,r1,r2,r3,r4,r5,r6,r7,x,r9,r10,r11,r12,r13,r14,())
 | .md x,(r0,r1,r2,r3,r4,r5,r6,r7,r8,_,r10,r11,r12,r13,r14,())=>(r0,r1,r2,r3,r4,r5,r6,r7,r8,x,r10,r11,r12,r13,r14,())
 | .ho x,(r0,r1,r2,r3,r4,r5,r6,r7,r8,r9,r10,_,r12,r13,r14,())=>(r0,r1,r2,r3,r4,r5,r6,r7,r8,r9,r10,x,r12,r13,r14,())
 | .mi x,(r0,r1,r2,r3,r4,r5,r6,r7,r8,r9,r10,r11,_,r13,r14,())=>(r0,r1,r2,r3,r4,r5,r6,r7,r8,r9,r10,r11,x,r13,r14,())
 | .se x,(r0,r1,r2,r3,r4,r5,r6,r7,r8,r9,r10,r11,r12,_,r14,())=>(r0,r1,r2,r3,r4,r5,r6,r7,r8,r9,r10,r11,r12,x,r14,())
 | .po x,(r0,r1,r2,r3,r4,r5,r6,r7,r8,r9,r10,r11,r12,r13,_,())=>(r0,r1,r2,r3,r4,r5,r6,r7,r8,r9,r10,r11,r12,r13,x,())
def nP (name v:List UInt8):Prop:=(∃u:Up,u.key=name ∧ ∀r:Rl,iA.f r (mkS name) (mkS v)=some (true,u.ap r,()))∨(∀r:Rl,∃r1,iA.f r (mkS name) (mkS v)=some (false,r1,()))
theorem wL {α:Type} (name v:List UInt8) (hv:v.length≤50000) (X:Option α) (g:α→Bool) (u:α→Up) (hk:∀a,(u a).key=name)
  (h:∀r:Rl,iA.f r (mkS name) (mkS v)=X.bind fun t=>some (g t,(u t).ap r,())):nP name v:=by
 cases X with
 | none=>
  have h0:=h zR;rcases wH1 0 0 0 0 0 false [] [] [] [] [] [] [] [] [] name v hv with⟨r',e,_⟩ | ⟨r1,r2,e,_⟩
  ·rw[show zR=(0,0,0,0,0,false,[],[],[],[],[],[],[],[],[],())from rfl,e]at h0;cases h0
  ·rw[show zR=(0,0,0,0,0,false,[],[],[],[],[],[],[],[],[],())from rfl,e]at h0;cases h0
 | some a=>
  cases hg:g a with
  | true=>exact .inl ⟨u a,hk a,fun r=>by rw[h r,eM2,hg]⟩
  | false=>exact .inr fun r=>⟨(u a).ap r,by rw[h r,eM2,hg]⟩
theorem mM1 (v:List UInt8) (r:Rl):iA.f r (mkS [70,82,69,81]) (mkS v)=((rA.f (fw.map mkS) (mkS v))).bind fun t=>some ((fun t=>decide (w6 (t.1+1)>0)) t,(show Up from(fun t=>.fr (w6 (t.1+1))) t).ap r,()):=by obtain⟨r0,r1,r2,r3,r4,r5,r6,r7,r8,r9,r10,r11,r12,r13,r14,⟨⟩⟩:=r;rw[iA.f_eq];simp(disch:=decide)only[mE,nm0,nm1,nm2,nm3,nm4,nm5,nm6,nm7,nm8,nm9,nm10,nm11,nm12,nm13,dm,dp,dn,cond_true,cond_false];rw[cE1];rfl
theorem hE2 (v:List UInt8) (hv:v.length≤50000):nP [70,82,69,81] v:=wL [70,82,69,81] v hv ((rA.f (fw.map mkS) (mkS v))) (fun t=>decide (w6 (t.1+1)>0)) (fun t=>.fr (w6 (t.1+1))) (fun _=>rfl) (mM1 v)
theorem dU (v:List UInt8) (r:Rl):iA.f r (mkS [73,78,84,69,82,86,65,76]) (mkS v)=(zE.f (mkS v)).bind fun t=>some ((fun t=>t.2.1) t,(show Up from(fun t=>.iv t.1) t).ap r,()):=by obtain⟨r0,r1,r2,r3,r4,r5,r6,r7,r8,r9,r10,r11,r12,r13,r14,⟨⟩⟩:=r;rw[iA.f_eq];simp(disch:=decide)only[mE,nm0,nm1,nm2,nm3,nm4,nm5,nm6,nm7,nm8,nm9,nm10,nm11,nm12,nm13,dm,dp,dn,cond_true,cond_false];rfl
theorem iJ1 (v:List UInt8) (hv:v.length≤50000):nP [73,78,84,69,82,86,65,76] v:=wL [73,78,84,69,82,86,65,76] v hv (zE.f (mkS v)) (fun t=>t.2.1) (fun t=>.iv t.1) (fun _=>rfl) (dU v)
theorem zG1 (v:List UInt8) (r:Rl):iA.f r (mkS [67,79,85,78,84]) (mkS v)=(zE.f (mkS v)).bind fun t=>some ((fun t=>t.2.1) t,(show Up from(fun t=>.ct t.1) t).ap r,()):=by obtain⟨r0,r1,r2,r3,r4,r5,r6,r7,r8,r9,r10,r11,r12,r13,r14,⟨⟩⟩:=r;rw[iA.f_eq];simp(disch:=decide)only[mE,nm0,nm1,nm2,nm3,nm4,nm5,nm6,nm7,nm8,nm9,nm10,nm11,nm12,nm13,dm,dp,dn,cond_true,cond_false];rfl
theorem yB2 (v:List UInt8) (hv:v.length≤50000):nP [67,79,85,78,84] v:=wL [67,79,85,78,84] v hv (zE.f (mkS v)) (fun t=>t.2.1) (fun t=>.ct t.1) (fun _=>rfl) (zG1 v)
theorem qH1 (v:List UInt8) (r:Rl):iA.f r (mkS [85,78,84,73,76]) (mkS v)=(gB.f (mkS v)).bind fun t=>some ((fun t=>decide (t.2.1=0)) t,(show Up from(fun t=>.un t.1) t).ap r,()):=by obtain⟨r0,r1,r2,r3,r4,r5,r6,r7,r8,r9,r10,r11,r12,r13,r14,⟨⟩⟩:=r;rw[iA.f_eq];simp(disch:=decide)only[mE,nm0,nm1,nm2,nm3,nm4,nm5,nm6,nm7,nm8,nm9,nm10,nm11,nm12,nm13,dm,dp,dn,cond_true,cond_false];rfl
theorem vA2 (v:List UInt8) (hv:v.length≤50000):nP [85,78,84,73,76] v:=wL [85,78,84,73,76] v hv (gB.f (mkS v)) (fun t=>decide (t.2.1=0)) (fun t=>.un t.1) (fun _=>rfl) (qH1 v)
theorem kI1 (v:List UInt8) (r:Rl):iA.f r (mkS [66,89,68,65,89]) (mkS v)=(aD.f (mkS v)).bind fun t=>some ((fun t=>t.2.1) t,(show Up from(fun t=>.dy t.1) t).ap r,()):=by obtain⟨r0,r1,r2,r3,r4,r5,r6,r7,r8,r9,r10,r11,r12,r13,r14,⟨⟩⟩:=r;rw[iA.f_eq];simp(disch:=decide)only[mE,nm0,nm1,nm2,nm3,nm4,nm5,nm6,nm7,nm8,nm9,nm10,nm11,nm12,nm13,dm,dp,dn,cond_true,cond_false];rfl
theorem iA2 (v:List UInt8) (hv:v.length≤50000):nP [66,89,68,65,89] v:=wL [66,89,68,65,89] v hv (aD.f (mkS v)) (fun t=>t.2.1) (fun t=>.dy t.1) (fun _=>rfl) (kI1 v)
theorem hO1 (v:List UInt8) (r:Rl):iA.f r (mkS [87,75,83,84]) (mkS v)=((rA.f (wd.map mkS) (mkS v))).bind fun t=>some ((fun t=>decide (t.1≥0)) t,(show Up from(fun t=>.wk t.1) t).ap r,()):=by obtain⟨r0,r1,r2,r3,r4,r5,r6,r7,r8,r9,r10,r11,r12,r13,r14,⟨⟩⟩:=r;rw[iA.f_eq];simp(disch:=decide)only[mE,nm0,nm1,nm2,nm3,nm4,nm5,nm6,nm7,nm8,nm9,nm10,nm11,nm12,nm13,dm,dp,dn,cond_true,cond_false];rw[mJ];rfl
theorem eE2 (v:List UInt8) (hv:v.length≤50000):nP [87,75,83,84] v:=wL [87,75,83,84] v hv ((rA.f (wd.map mkS) (mkS v))) (fun t=>decide (t.1≥0)) (fun t=>.wk t.1) (fun _=>rfl) (hO1 v)
theorem tW (v:List UInt8) (r:Rl):iA.f r (mkS [66,89,77,79,78,84,72]) (mkS v)=(eC.f (mkS v)).bind fun t=>some ((fun t=>t.2.1) t,(show Up from(fun t=>.mo t.1) t).ap r,()):=by obtain⟨r0,r1,r2,r3,r4,r5,r6,r7,r8,r9,r10,r11,r12,r13,r14,⟨⟩⟩:=r;rw[iA.f_eq];simp(disch:=decide)only[mE,nm0,nm1,nm2,nm3,nm4,nm5,nm6,nm7,nm8,nm9,nm10,nm11,nm12,nm13,dm,dp,dn,cond_true,cond_false];rw[iA.l1_eq];rfl
theorem rP1 (v:List UInt8) (hv:v.length≤50000):nP [66,89,77,79,78,84,72] v:=wL [66,89,77,79,78,84,72] v hv (eC.f (mkS v)) (fun t=>t.2.1) (fun t=>.mo t.1) (fun _=>rfl) (tW v)
theorem iV (v:List UInt8) (r:Rl):iA.f r (mkS [66,89,87,69,69,75,78,79]) (mkS v)=(eC.f (mkS v)).bind fun t=>some ((fun t=>t.2.1) t,(show Up from(fun t=>.we t.1) t).ap r,()):=by obtain⟨r0,r1,r2,r3,r4,r5,r6,r7,r8,r9,r10,r11,r12,r13,r14,⟨⟩⟩:=r;rw[iA.f_eq];simp(disch:=decide)only[mE,nm0,nm1,nm2,nm3,nm4,nm5,nm6,nm7,nm8,nm9,nm10,nm11,nm12,nm13,dm,dp,dn,cond_true,cond_false];rw[iA.l1a_eq];rfl
theorem hJ1 (v:List UInt8) (hv:v.length≤50000):nP [66,89,87,69,69,75,78,79] v:=wL [66,89,87,69,69,75,78,79] v hv (eC.f (mkS v)) (fun t=>t.2.1) (fun t=>.we t.1) (fun _=>rfl) (iV v)
theorem fR (v:List UInt8) (r:Rl):iA.f r (mkS [66,89,89,69,65,82,68,65,89]) (mkS v)=(eC.f (mkS v)).bind fun t=>some ((fun t=>t.2.1) t,(show Up from(fun t=>.yd t.1) t).ap r,()):=by obtain⟨r0,r1,r2,r3,r4,r5,r6,r7,r8,r9,r10,r11,r12,r13,r14,⟨⟩⟩:=r;rw[iA.f_eq];simp(disch:=decide)only[mE,nm0,nm1,nm2,nm3,nm4,nm5,nm6,nm7,nm8,nm9,nm10,nm11,nm12,nm13,dm,dp,dn,cond_true,cond_false];rw[iA.l1b_eq];rfl
theorem oI1 (v:List UInt8) (hv:v.length≤50000):nP [66,89,89,69,65,82,68,65,89] v:=wL [66,89,89,69,65,82,68,65,89] v hv (eC.f (mkS v)) (fun t=>t.2.1) (fun t=>.yd t.1) (fun _=>rfl) (fR v)
theorem sP (v:List UInt8) (r:Rl):iA.f r (mkS [66,89,77,79,78,84,72,68,65,89]) (mkS v)=(eC.f (mkS v)).bind fun t=>some ((fun t=>t.2.1) t,(show Up from(fun t=>.md t.1) t).ap r,()):=by obtain⟨r0,r1,r2,r3,r4,r5,r6,r7,r8,r9,r10,r11,r12,r13,r14,⟨⟩⟩:=r;rw[iA.f_eq];simp(disch:=decide)only[mE,nm0,nm1,nm2,nm3,nm4,nm5,nm6,nm7,nm8,nm9,nm10,nm11,nm12,nm13,dm,dp,dn,cond_true,cond_false];rw[iA.l1c_eq];rfl
theorem nD1 (v:List UInt8) (hv:v.length≤50000):nP [66,89,77,79,78,84,72,68,65,89] v:=wL [66,89,77,79,78,84,72,68,65,89] v hv (eC.f (mkS v)) (fun t=>t.2.1) (fun t=>.md t.1) (fun _=>rfl) (sP v)
theorem tA1 (v:List UInt8) (r:Rl):iA.f r (mkS [66,89,72,79,85,82]) (mkS v)=(eC.f (mkS v)).bind fun t=>some ((fun t=>t.2.1) t,(show Up from(fun t=>.ho t.1) t).ap r,()):=by obtain⟨r0,r1,r2,r3,r4,r5,r6,r7,r8,r9,r10,r11,r12,r13,r14,⟨⟩⟩:=r;rw[iA.f_eq];simp(disch:=decide)only[mE,nm0,nm1,nm2,nm3,nm4,nm5,nm6,nm7,nm8,nm9,nm10,nm11,nm12,nm13,dm,dp,dn,cond_true,cond_false];rw[iA.l1d_eq];rfl
theorem qV1 (v:List UInt8) (hv:v.length≤50000):nP [66,89,72,79,85,82] v:=wL [66,89,72,79,85,82] v hv (eC.f (mkS v)) (fun t=>t.2.1) (fun t=>.ho t.1) (fun _=>rfl) (tA1 v)
theorem eV (v:List UInt8) (r:Rl):iA.f r (mkS [66,89,77,73,78,85,84,69]) (mkS v)=(eC.f (mkS v)).bind fun t=>some ((fun t=>t.2.1) t,(show Up from(fun t=>.mi t.1) t).ap r,()):=by obtain⟨r0,r1,r2,r3,r4,r5,r6,r7,r8,r9,r10,r11,r12,r13,r14,⟨⟩⟩:=r;rw[iA.f_eq];simp(disch:=decide)only[mE,nm0,nm1,nm2,nm3,nm4,nm5,nm6,nm7,nm8,nm9,nm10,nm11,nm12,nm13,dm,dp,dn,cond_true,cond_false];rw[iA.l1e_eq];rfl
theorem jK1 (v:List UInt8) (hv:v.length≤50000):nP [66,89,77,73,78,85,84,69] v:=wL [66,89,77,73,78,85,84,69] v hv (eC.f (mkS v)) (fun t=>t.2.1) (fun t=>.mi t.1) (fun _=>rfl) (eV v)
theorem xU (v:List UInt8) (r:Rl):iA.f r (mkS [66,89,83,69,67,79,78,68]) (mkS v)=(eC.f (mkS v)).bind fun t=>some ((fun t=>t.2.1) t,(show Up from(fun t=>.se t.1) t).ap r,()):=by obtain⟨r0,r1,r2,r3,r4,r5,r6,r7,r8,r9,r10,r11,r12,r13,r14,⟨⟩⟩:=r;rw[iA.f_eq];simp(disch:=decide)only[mE,nm0,nm1,nm2,nm3,nm4,nm5,nm6,nm7,nm8,nm9,nm10,nm11,nm12,nm13,dm,dp,dn,cond_true,cond_false];rw[iA.l1f_eq];rfl
theorem gJ1 (v:List UInt8) (hv:v.length≤50000):nP [66,89,83,69,67,79,78,68] v:=wL [66,89,83,69,67,79,78,68] v hv (eC.f (mkS v)) (fun t=>t.2.1) (fun t=>.se t.1) (fun _=>rfl) (xU v)
theorem yU (v:List UInt8) (r:Rl):iA.f r (mkS [66,89,83,69,84,80,79,83]) (mkS v)=(eC.f (mkS v)).bind fun t=>some ((fun t=>t.2.1) t,(show Up from(fun t=>.po t.1) t).ap r,()):=by obtain⟨r0,r1,r2,r3,r4,r5,r6,r7,r8,r9,r10,r11,r12,r13,r14,⟨⟩⟩:=r;rw[iA.f_eq];simp(disch:=decide)only[mE,nm0,nm1,nm2,nm3,nm4,nm5,nm6,nm7,nm8,nm9,nm10,nm11,nm12,nm13,dm,dp,dn,cond_true,cond_false];rw[iA.l1g_eq];rfl
theorem sJ1 (v:List UInt8) (hv:v.length≤50000):nP [66,89,83,69,84,80,79,83] v:=wL [66,89,83,69,84,80,79,83] v hv (eC.f (mkS v)) (fun t=>t.2.1) (fun t=>.po t.1) (fun _=>rfl) (yU v)
theorem vE2 (name v:List UInt8) (hv:v.length≤50000):nP name v:=by
 by_cases h0:name=[70,82,69,81]
 ·subst h0;exact hE2 v hv
 by_cases h1:name=[73,78,84,69,82,86,65,76]
 ·subst h1;exact iJ1 v hv
 by_cases h2:name=[67,79,85,78,84]
 ·subst h2;exact yB2 v hv
 by_cases h3:name=[85,78,84,73,76]
 ·subst h3;exact vA2 v hv
 by_cases h4:name=[66,89,68,65,89]
 ·subst h4;exact iA2 v hv
 by_cases h5:name=[87,75,83,84]
 ·subst h5;exact eE2 v hv
 by_cases h6:name=[66,89,77,79,78,84,72]
 ·subst h6;exact rP1 v hv
 by_cases h7:name=[66,89,87,69,69,75,78,79]
 ·subst h7;exact hJ1 v hv
 by_cases h8:name=[66,89,89,69,65,82,68,65,89]
 ·subst h8;exact oI1 v hv
 by_cases h9:name=[66,89,77,79,78,84,72,68,65,89]
 ·subst h9;exact nD1 v hv
 by_cases h10:name=[66,89,72,79,85,82]
 ·subst h10;exact qV1 v hv
 by_cases h11:name=[66,89,77,73,78,85,84,69]
 ·subst h11;exact jK1 v hv
 by_cases h12:name=[66,89,83,69,67,79,78,68]
 ·subst h12;exact gJ1 v hv
 by_cases h13:name=[66,89,83,69,84,80,79,83]
 ·subst h13;exact sJ1 v hv
 refine .inr fun r=>?_
 rw[iA.f_eq];simp only[mE,nm0,nm1,nm2,nm3,nm4,nm5,nm6,nm7,nm8,nm9,nm10,nm11,nm12,nm13,dm,dn h0,dn h1,dn h2,dn h3,dn h4,dn h5,dn h6,dn h7,dn h8,dn h9,dn h10,dn h11,dn h12,dn h13,cond_false];rw[iA.l1h_eq];exact⟨_,rfl⟩
def Good (s:List UInt8) (u:Up):Prop:=∃b,s=u.key++61::b∧(61:UInt8)∉u.key ∧ ∀r:Rl,iA.f r (mkS u.key) (mkS b)=some (true,u.ap r,())
def Bad (s:List UInt8):Prop:=∀a b,s=a++61::b→(61:UInt8)∉a → ∀r:Rl,∃r1,iA.f r (mkS a) (mkS b)=some (false,r1,())
theorem zQ {c:UInt8}:∀{a a' b b':List UInt8},a++c::b=a'++c::b'→c∉a→c∉a'→a=a'∧b=b'
 | [],[],b,b',h,_,_=>by simpa using h
 | [],x::a',b,b',h,_,h2=>by simp at h;exact absurd (h.1 ▸ mM2 ..) h2
 | x::a,[],b,b',h,h1,_=>by simp at h;exact absurd (h.1 ▸ mM2 ..) h1
 | x::a,y::a',b,b',h,h1,h2=>by simp at h;obtain⟨e,h⟩:=h;obtain⟨e1,e2⟩:=zQ h (fun q=>h1 (lM2 _ q)) (fun q=>h2 (lM2 _ q));exact⟨by rw[e,e1],e2⟩
theorem mD2 (s:List UInt8) (hs:s.length≤50000):(∃u,Good s u)∨Bad s:=by
 rcases uI (c:=(61:UInt8)) (l:=s)with hno | ⟨a,b,hab,ha⟩
 ·exact .inr fun a b e _=>absurd (by rw[e];simp) hno
 ·have hb:b.length≤50000:=by rw[hab]at hs;simp at hs;omega
  rcases vE2 a b hb with⟨u,hk,h⟩ | h
  ·subst hk;exact .inl ⟨u,b,hab,ha,h⟩
  ·refine .inr fun a' b' e ha'=>?_
   obtain⟨e1,e2⟩:=zQ (hab ▸ e) ha ha';subst e1 e2;exact h
theorem hA2 {s:List UInt8} {u:Up} (h:Good s u) (g:Bad s):False:=by obtain⟨b,e,hn,h⟩:=h;obtain⟨r1,h1⟩:=g _ _ e hn zR;rw[h zR]at h1;cases h1
theorem fU1 {s:List UInt8} {u w:Up} (h:Good s u) (g:Good s w):u.key=w.key ∧ ∀r:Rl,u.ap r=w.ap r:=by obtain⟨b,e,hn,h⟩:=h;obtain⟨b',e',hn',g⟩:=g;obtain⟨e1,e2⟩:=zQ (e ▸ e') hn hn';refine⟨e1,fun r=>?_⟩;subst e2;have:=h r;rw[e1,g r]at this;exact(Prod.mk.inj (Prod.mk.inj (iN2 this)).2).1.symm
def keys (us:List Up):List (List UInt8):=us.map Up.key
def xJ (r:Rl) (us:List Up):Rl:=us.foldl (fun r u=>u.ap r) r
noncomputable def fin (r:Rl) (ms:List (List UInt8)):Option (Rl×Int×Int×Unit):=
 if FREQ∈ms then(xA.f r).bind fun t=>bif !t.1 then some (zR,0,1,())else some (r,0,0,())else some (zR,0,7,())
theorem nG1 (p:List (List UInt8)) (hp:p.length≤10000) (hpl:∀s∈p,s.length≤5000):∀(k i:Nat) (r:Rl) (ms:List (List UInt8)),p.length-i=k→i≤p.length→ms.length≤i →
  (∀us,All2 Good (p.drop i) us→(∀u∈us,u.key∉ms)→(keys us).Nodup→PA p i r ms=fin (xJ r us) (ms++keys us)) ∧
  ((¬ ∃us,All2 Good (p.drop i) us∧(∀u∈us,u.key∉ms)∧(keys us).Nodup) → ∃n:Nat,PA p i r ms=some (zR,(n:Int),4,())):=by
 have hlim:wC=17179869184:=rfl;have hml:(p.map mkS).length=p.length:=hM2 ..;intro k
 induction k with
 | zero=>
  intro i r ms hk hil hms;have e:i=p.length:=by omega
  subst e;rw[wN2];refine⟨fun us hus _ _=>?_,fun h=>absurd ⟨[],trivial,by simp,by simp[keys]⟩ h⟩
  cases us with
  | cons _ _=>exact hus.elim
  | nil=>
   have hC:bC.f (ms.map mkS) ⟨#[70,82,69,81]⟩=some (decide (FREQ∈ms),()):=nK ms FREQ (by omega);have hk0:ms++keys []=ms:=by simp[keys]
   rw[hk0];unfold PA;rw[zA.l1a_eq];simp(disch:=omega)only[ss,hml,hC];unfold fin;by_cases c:FREQ∈ms
   ·rw[dp c,if_pos c];rfl
   ·rw[dn c,if_neg c];rfl
 | succ k ih=>
  intro i r ms hk hil hms;have hlt:i<p.length:=by omega
  have hg:=gm p i hlt;have hsl:=hpl _ (sC [] hlt);have pt:∀x9:ByteArray,zA.l2a i x9 (p.map mkS) p.length i true 0 0 0 0 0 false r.1 r.2.1 r.2.2.1 r.2.2.2.1 r.2.2.2.2.1 r.2.2.2.2.2.1 r.2.2.2.2.2.2.1 r.2.2.2.2.2.2.2.1 r.2.2.2.2.2.2.2.2.1 r.2.2.2.2.2.2.2.2.2.1 r.2.2.2.2.2.2.2.2.2.2.1 r.2.2.2.2.2.2.2.2.2.2.2.1 r.2.2.2.2.2.2.2.2.2.2.2.2.1 r.2.2.2.2.2.2.2.2.2.2.2.2.2.1 r.2.2.2.2.2.2.2.2.2.2.2.2.2.2.1 (ms.map mkS)=some (zR,(i:Int),4,()):=fun x9=>by rw[zA.l2a_eq,cond_true];rfl
  rw[nC [] hlt];generalize hs:p.getD i []=s at hg hsl;have xS:PA p i r ms=PA p i r ms:=rfl;unfold PA at xS;rcases uI (c:=(61:UInt8)) (l:=s)with hno | ⟨a,b,hab,ha⟩
  ·have hc:aE.f (mkS s) ⟨#[61]⟩=some (mkS s,mkS [],false,()):=eW (s:=mkS s) (c:=61) hno;refine⟨fun us hus _ _=>?_,fun _=>⟨i,?_⟩⟩
   ·cases us with
    | nil=>exact hus.elim
    | cons u us=>
     obtain⟨b,e,_⟩:=hus.1;exact absurd (by rw[e];simp) hno
   ·unfold PA;rw[zA.l1a_eq];simp(disch:=omega)only[ss,hml,hg];rw[hc];simp(disch:=omega)only[ss,pt]
  ·have hab2:a.length+b.length≤5000:=by rw[hab]at hsl;simp at hsl;omega
   have hc:aE.f (mkS s) ⟨#[61]⟩=some (mkS a,mkS b,true,()):=by rw[hab];exact jR (c:=61) (by omega) ha
   have hK:=nK ms a (by omega)
   have gk:∀u,Good s u→u.key=a:=fun u h=>by obtain⟨b',e,hn,_⟩:=h;exact(zQ (hab ▸ e) ha hn).1.symm
   by_cases c:a∈ms
   ·refine⟨fun us hus hm _=>?_,fun _=>⟨i,?_⟩⟩
    ·cases us with
     | nil=>exact hus.elim
     | cons u us=>exact absurd ((gk u hus.1).symm ▸ c) (hm u (by simp))
    ·unfold PA;rw[zA.l1a_eq];simp(disch:=omega)only[ss,hml,hg];rw[hc];simp(disch:=omega)only[ss,hK,dp c];exact pt _
   ·have step:∀x,PA p i r ms=x↔((iA.f (r.1,r.2.1,r.2.2.1,r.2.2.2.1,r.2.2.2.2.1,r.2.2.2.2.2.1,r.2.2.2.2.2.2.1,r.2.2.2.2.2.2.2.1,r.2.2.2.2.2.2.2.2.1,r.2.2.2.2.2.2.2.2.2.1,r.2.2.2.2.2.2.2.2.2.2.1,r.2.2.2.2.2.2.2.2.2.2.2.1,r.2.2.2.2.2.2.2.2.2.2.2.2.1,r.2.2.2.2.2.2.2.2.2.2.2.2.2.1,r.2.2.2.2.2.2.2.2.2.2.2.2.2.2.1,()) (mkS a) (mkS b)).bind fun t9=>bif !t9.1 then(some (zR,(i:Int),4,()))else PA p (i+1) t9.2.1 (ms++[a]))=x:=fun x=>by
     have e1:ms.map mkS++[mkS a]=(ms++[a]).map mkS:=by simp
     have:PA p i r ms=((iA.f (r.1,r.2.1,r.2.2.1,r.2.2.2.1,r.2.2.2.2.1,r.2.2.2.2.2.1,r.2.2.2.2.2.2.1,r.2.2.2.2.2.2.2.1,r.2.2.2.2.2.2.2.2.1,r.2.2.2.2.2.2.2.2.2.1,r.2.2.2.2.2.2.2.2.2.2.1,r.2.2.2.2.2.2.2.2.2.2.2.1,r.2.2.2.2.2.2.2.2.2.2.2.2.1,r.2.2.2.2.2.2.2.2.2.2.2.2.2.1,r.2.2.2.2.2.2.2.2.2.2.2.2.2.2.1,()) (mkS a) (mkS b)).bind fun t9=>bif !t9.1 then(some (zR,(i:Int),4,()))else PA p (i+1) t9.2.1 (ms++[a])):=by
      unfold PA;rw[zA.l1a_eq];simp(disch:=omega)only[ss,hml,hg];rw[hc];simp(disch:=omega)only[ss,hK,dn c]
      congr 1
      funext t9
      rw[zA.l2a_eq]
      cases t9.1 with
      | false=>rfl
      | true=>
       simp(disch:=omega)only[ss,hM2,gM2,hlim];rw[e1];rfl
     rw[this]
    rcases mD2 s (by omega)with⟨u,hu⟩ | hbad
    ·have hk':=gk u hu;obtain⟨b',e,hn,hu'⟩:=id hu;have e2:=(zQ (hab ▸ e) ha hn).2;subst e2;have hpart:iA.f (r.1,r.2.1,r.2.2.1,r.2.2.2.1,r.2.2.2.2.1,r.2.2.2.2.2.1,r.2.2.2.2.2.2.1,r.2.2.2.2.2.2.2.1,r.2.2.2.2.2.2.2.2.1,r.2.2.2.2.2.2.2.2.2.1,r.2.2.2.2.2.2.2.2.2.2.1,r.2.2.2.2.2.2.2.2.2.2.2.1,r.2.2.2.2.2.2.2.2.2.2.2.2.1,r.2.2.2.2.2.2.2.2.2.2.2.2.2.1,r.2.2.2.2.2.2.2.2.2.2.2.2.2.2.1,()) (mkS a) (mkS b)=some (true,u.ap r,()):=by rw[←hk'];exact hu' r
     have go:PA p i r ms=PA p (i+1) (u.ap r) (ms++[a]):=(step _).2 (by rw[hpart];rfl);obtain⟨n1,n2⟩:=ih (i+1) (u.ap r) (ms++[a]) (by omega) (by omega) (by simp;omega);refine⟨fun us hus hm hnd=>?_,fun h=>?_⟩
     ·cases us with
      | nil=>exact hus.elim
      | cons w us=>
       obtain⟨ew,ef⟩:=fU1 hus.1 hu;have hnd':w.key∉keys us∧(keys us).Nodup:=fP2.1 hnd
       have:=n1 us hus.2 (fun v hv q=>by
        rcases pM2.1 q with q | q
        ·exact hm v (lM2 _ hv) q
        ·rw[kN2]at q
         exact hnd'.1 (by rw[ew,hk',←q];exact yM2.2 ⟨v,hv,rfl⟩)) hnd'.2
       rw[go,this,rM2];show fin (xJ (u.ap r) us) (ms++([a]++keys us))=fin (xJ (w.ap r) us) (ms++(w.key::keys us));rw[ew,hk',ef r];rfl
     ·rw[go];refine n2 fun⟨us,h1,h2,h3⟩=>h ⟨u::us,⟨hu,h1⟩,?_,?_⟩
      ·intro v hv q;rcases jM2.1 hv with e | hv
       ·subst e;exact c (hk' ▸ q)
       ·exact h2 v hv (zM2 _ q)
      ·refine fP2.2 ⟨fun q=>?_,h3⟩;obtain⟨v,hv,e⟩:=yM2.1 q;exact h2 v hv (by rw[e,hk'];simp)
    ·refine⟨fun us hus _ _=>?_,fun _=>⟨i,?_⟩⟩
     ·cases us with
      | nil=>exact hus.elim
      | cons u us=>exact(hA2 hus.1 hbad).elim
     ·obtain⟨r1,h1⟩:=hbad a b hab ha r;refine(step _).2 ?_;rw[show iA.f (r.1,r.2.1,r.2.2.1,r.2.2.2.1,r.2.2.2.2.1,r.2.2.2.2.2.1,r.2.2.2.2.2.2.1,r.2.2.2.2.2.2.2.1,r.2.2.2.2.2.2.2.2.1,r.2.2.2.2.2.2.2.2.2.1,r.2.2.2.2.2.2.2.2.2.2.1,r.2.2.2.2.2.2.2.2.2.2.2.1,r.2.2.2.2.2.2.2.2.2.2.2.2.1,r.2.2.2.2.2.2.2.2.2.2.2.2.2.1,r.2.2.2.2.2.2.2.2.2.2.2.2.2.2.1,()) (mkS a) (mkS b)=some (false,r1,())from h1];rfl
def jn (c:UInt8):List (List UInt8)→List UInt8
 | []=>[]
 | [a]=>a
 | a::b::l=>a++c::jn c (b::l)
theorem vC1 (c:UInt8):∀(l:List (List UInt8)) (n:List UInt8),jn c (l++[n])=if l=[]then n else jn c l++c::n
 | [],n=>rfl
 | [m],n=>rfl
 | m::k::l,n=>by have ih:=vC1 c (k::l) n;rw[if_neg (by simp)]at ih;rw[if_neg (by simp)];show m++c::jn c (k::l++[n])=(m++c::jn c (k::l))++c::n;rw[ih];simp
theorem vZ (c:UInt8):∀(l:List (List UInt8)),l≠[]→(∀s∈l,c∉s)→segs c (jn c l)=l
 | [],h,_=>absurd rfl h
 | [n],_,h=>dK (h n (by simp))
 | n::m::l,_,h=>by show segs c (n++c::jn c (m::l))=_;rw[yJ (h n (by simp)),vZ c (m::l) (by simp) fun s hs=>h s (lM2 _ hs)]
def tot :List (List UInt8)→Nat
 | []=>0
 | a::l=>a.length+tot l
theorem uR1 (c:UInt8):∀(l:List (List UInt8)),l≠[]→(jn c l).length+1=tot l+l.length
 | [],h=>absurd rfl h
 | [n],_=>by simp[jn,tot]
 | n::m::l,_=>by have:=uR1 c (m::l) (by simp);show(n++c::jn c (m::l)).length+1=n.length+tot (m::l)+_;rw[cM2,kM2,kM2];omega
theorem mU1 (c:UInt8):∀(l:List (List UInt8)),(jn c l).length≤tot l+l.length
 | []=>iM2 _
 | a::l=>by have:=uR1 c (a::l) (by simp);omega
theorem eqI (a:List Int) (ha:a.length≤1000000):tA.f a a=some (true,()):=by
 have key:∀(k i:Nat),a.length-i=k→i≤a.length→tA.l1 a a a.length i=some (true,()):=by
  intro k
  induction k with
  | zero=>
   intro i hk hia;rw[tA.l1_eq];simp(disch:=omega)only[ss]
  | succ k ih=>
   intro i hk hia;rw[tA.l1_eq];simp(disch:=omega)only[ss];exact ih (i+1) (by omega) (by omega)
 rw[tA.f_eq];have:=key _ 0 rfl (iM2 _);rw[tM2]at this;simp(disch:=omega)only[ss,this]
theorem eqD (a:List Dy) (ha:a.length≤1000000):uA.f a a=some (true,()):=by
 have key:∀(k i:Nat),a.length-i=k→i≤a.length→uA.l1 a a a.length i=some (true,()):=by
  intro k
  induction k with
  | zero=>
   intro i hk hia;rw[uA.l1_eq];simp(disch:=omega)only[ss]
  | succ k ih=>
   intro i hk hia;rw[uA.l1_eq];simp(disch:=omega)only[ss];exact ih (i+1) (by omega) (by omega)
 rw[uA.f_eq];have:=key _ 0 rfl (iM2 _);rw[tM2]at this;simp(disch:=omega)only[ss,this]
theorem mN1 (s:List UInt8) (hs:s.length≤4096):zA.f (mkS s)=PA (segs 59 s) 0 (0,1,0,0,0,false,[],[],[],[],[],[],[],[],[],()) []:=by
 have hsl:=cN 59 s;have hS:pD.f (mkS s) ⟨#[59]⟩=some ((segs 59 s).map mkS,()):=uJ (c:=59) s (by omega);have hml:((segs 59 s).map mkS).length=(segs 59 s).length:=hM2 ..
 have hR:∀(x:List ByteArray) (n:Int),zA.l1 x n 0 0 0 0 0 0 false 0 1 0 0 0 false []=zA.l1a x n 0 0 0 0 0 0 false 0 1 0 0 0 false [] [] [] [] [] [] [] [] [] []:=fun x n=>by rw[zA.l1_eq,zA.l1a_eq];simp only[zA.l2_eq,zA.l2a_eq,cond_true]
 rw[zA.f_eq];simp(disch:=omega)only[ss,szS,hS,hR,hml];rfl
theorem iW (y:Int) (hy:1≤y):fst_ (y+1)=fst_ y+cum y 13:=by
 unfold fst_ cum cumT
 have e:(if 3≤(13:Int)∧zT y=true then(1:Int)else 0)=y/4-(y-1)/4-(y/100-(y-1)/100)+(y/400-(y-1)/400):=by
  unfold zT;by_cases h1:y%4=0
  ·by_cases h2:y%100=0
   ·by_cases h5:y%400=0
    ·rw[if_pos ⟨by omega,by simp[h1,h2,h5]⟩];omega
    ·rw[if_neg (by simp[h1,h2,h5])];omega
   ·rw[if_pos ⟨by omega,by simp[h1,h2]⟩];omega
  ·rw[if_neg (by simp[h1])];omega
 rw[e];simp;omega
theorem hJ2 (y:Int):365≤cum y 13∧cum y 13≤366:=by unfold cum cumT;split <;> (simp;try omega)
theorem mB2 {a b:Int} (h0:1≤a) (h:a<b):fst_ a+365≤fst_ b:=by
 obtain⟨k,hk⟩:=gN2 (show 0≤b-a-1 by omega);have e:b=a+1+(k:Int):=by omega
 subst e;clear hk h
 induction k with
 | zero=>
  have:=iW a h0;have:=hJ2 a;simp;omega
 | succ k ih=>
  have:=iW (a+1+(k:Int)) (by omega);have:=hJ2 (a+1+(k:Int));rw[show a+1+((k+1:Nat):Int)=a+1+(k:Int)+1 by omega];omega
theorem oM {a b:Int} (h0:1≤a) (h:a≤b):fst_ a≤fst_ b:=by
 rcases Int.lt_or_eq_of_le h with h | h
 ·have:=mB2 h0 h;omega
 ·rw[h];exact Int.le_refl _
theorem tG2 :fst_ 1 = -719162:=by decide
theorem wY :fst_ 10000=2932897:=by decide
theorem dE2 (y:Int):cum y 1=0:=by unfold cum cumT;simp
theorem bM1 (y:Int) {a b:Int} (h0:1≤a) (h:a≤b) (h1:b≤13):cum y a≤cum y b:=by
 obtain⟨k,hk⟩:=gN2 (show 0≤b-a by omega);have e:b=a+(k:Int):=by omega
 subst e;clear hk h
 induction k with
 | zero=>simp
 | succ k ih=>
  have:=ih (by omega);have h2:=nN y (a+(k:Int)) (by omega) (by omega);have:=mQ y (a+(k:Int));rw[show a+((k+1:Nat):Int)=a+(k:Int)+1 by omega,h2];omega
theorem oF2 (n:Int) (h1: -719162≤n) (h2:n≤2932896):∃y,1≤y∧y≤9999∧fst_ y≤n∧n<fst_ (y+1):=by
 have key:∀k:Nat,k≤9999→n<fst_ (1+(k:Int)) → ∃y,1≤y∧y≤9999∧fst_ y≤n∧n<fst_ (y+1):=by
  intro k
  induction k with
  | zero=>
   intro _ h;rw[show(1:Int)+((0:Nat):Int)=1 from rfl,tG2]at h;omega
  | succ k ih=>
   intro hk h;by_cases c:n<fst_ (1+(k:Int))
   ·exact ih (by omega) c
   ·exact⟨1+(k:Int),by omega,by omega,by omega,by rw[show(1:Int)+(k:Int)+1=1+((k+1:Nat):Int) by omega];exact h⟩
 refine key 9999 (oM2 _) ?_;rw[show(1:Int)+((9999:Nat):Int)=10000 from rfl,wY];omega
theorem bZ1 (y d:Int) (h1:0≤d) (h2:d<cum y 13):∃m,1≤m∧m≤12∧cum y m≤d∧d<cum y (m+1):=by
 have key:∀k:Nat,k≤12→d<cum y (1+(k:Int)) → ∃m,1≤m∧m≤12∧cum y m≤d∧d<cum y (m+1):=by
  intro k
  induction k with
  | zero=>
   intro _ h;rw[show(1:Int)+((0:Nat):Int)=1 from rfl,dE2]at h;omega
  | succ k ih=>
   intro hk h;by_cases c:d<cum y (1+(k:Int))
   ·exact ih (by omega) c
   ·exact⟨1+(k:Int),by omega,by omega,by omega,by rw[show(1:Int)+(k:Int)+1=1+((k+1:Nat):Int) by omega];exact h⟩
 exact key 12 (oM2 _) h2
def kO1 (n y m d:Int):Prop:=vM y m d=true∧fst_ y+d-1+cum y m=n
theorem bR {y m d:Int}:vM y m d=true↔1≤y∧y≤9999∧1≤d∧d≤mlen y m:=by unfold vM;simp only[fM2,decide_eq_true_eq,and_assoc]
theorem pU1 {n y m d:Int} (h:kO1 n y m d):fst_ y≤n∧n<fst_ (y+1)∧1≤m∧m≤12 ∧ -719162≤n∧n≤2932896:=by obtain⟨h1,h2⟩:=h;obtain⟨h3,h4,h5,h6⟩:=bR.1 h1;have hm:=(mQ y m).2.2 (by omega);have hc:=nN y m hm.1 hm.2;have hb:=tN y m;have hs:=iW y h3;have hmo:=bM1 y (a:=m+1) (b:=13) (by omega) (by omega) (by omega);have h7:=oM (a:=1) (b:=y) (by omega) h3;have h8:=oM (a:=y+1) (b:=10000) (by omega) (by omega);rw[tG2]at h7;rw[wY]at h8;exact⟨by omega,by omega,hm.1,hm.2,by omega,by omega⟩
theorem zI2 (y d0 M:Int) (hy:1≤y) (hy2:y≤9999) (h1:0≤d0) (h2:M≤12) (h3:cum y M≤d0) (h4:d0<cum y (M+1)):∀(k:Nat) (m:Int),M-m=k→1≤m →
  oB.l5 y (d0-cum y m) m=some (y,M,d0-cum y M+1,0,())∧xC.l2 y (d0-cum y m) m=some (y,M,d0-cum y M+1,0,()):=by
 intro k
 induction k with
 | zero=>
  intro m hk hm;have e:m=M:=by omega
  subst e;have hc:=nN y m hm h2;have hb:=tN y m;have hb2:=tN y (m+1);rw[oB.l5_eq,xC.l2_eq,oQ y m (by omega),rL y m (by omega)];simp(disch:=omega)only[ss,ge_iff_le];exact⟨trivial,trivial⟩
 | succ k ih=>
  intro m hk hm;have hc:=nN y m hm (by omega);have hmo:=bM1 y (a:=m+1) (b:=M) (by omega) (by omega) (by omega);have hb:=tN y m;have hb1:=tN y M;have hb2:=tN y (m+1);have hb3:=tN y (M+1);rw[oB.l5_eq,xC.l2_eq,oQ y m (by omega),rL y m (by omega)];have e:d0-cum y m-mlen y m=d0-cum y (m+1):=by omega
  simp(disch:=omega)only[ss,ge_iff_le];rw[e];exact ih (m+1) (by omega) (by omega)
theorem yY1 (y:Int) (hy:1≤y) (hy2:y≤10000):eG.f y 1 1=some (fst_ y,()):=by
 rw[gU y 1 1 hy hy2 (by omega) (by omega) (by omega) (by omega),dE2]
 congr 2
 omega
theorem aI2 (n Y:Int) (hY:1≤Y) (h1:fst_ Y≤n) (h2:n<fst_ (Y+1)):∀(k:Nat) (z:Int),z-Y=k→z≤9999→oB.l4 n z=oB.l5 Y (n-fst_ Y) 1:=by
 intro k;have hfb:=lU (Y+1) (by omega)
 induction k with
 | zero=>
  intro z hk hz;have e:z=Y:=by omega
  subst e;have hfb:=lU z (by omega) (by omega);have hfb1:=lU (z+1) (by omega) (by omega);rw[oB.l4_eq,yY1 z (by omega) (by omega)];simp(disch:=omega)only[ss,gt_iff_lt]
 | succ k ih=>
  intro z hk hz;have hm:=oM (a:=Y+1) (b:=z) (by omega) (by omega);have hfb:=lU z (by omega) (by omega);rw[oB.l4_eq,yY1 z (by omega) (by omega)];simp(disch:=omega)only[ss,gt_iff_lt];exact ih (z-1) (by omega) (by omega)
theorem kI2 (n Y:Int) (hY:1≤Y) (hY2:Y≤9999) (h1:fst_ Y≤n) (h2:n<fst_ (Y+1)):∀(k:Nat) (y:Int),(Y-y).toNat=k→1≤y→y≤9999 → ∃z,Y≤z∧z≤9999∧oB.l1 n y=oB.l4 n z:=by
 intro k
 induction k with
 | zero=>
  intro y hk hy hy2;refine⟨y,by omega,hy2,?_⟩;rw[oB.l1_eq];by_cases c:y<9999
  ·have hm:=oM (a:=Y+1) (b:=y+1) (by omega) (by omega);have hw:w6 (y+1)=y+1:=wr (by omega) (by omega);rw[hw,yY1 (y+1) (by omega) (by omega)];simp(disch:=omega)only[ss,oB.l2_eq,oB.l3_eq]
  ·simp(disch:=omega)only[ss,oB.l2_eq,oB.l3_eq]
 | succ k ih=>
  intro y hk hy hy2;have hm:=oM (a:=y+1) (b:=Y) (by omega) (by omega);have hw:w6 (y+1)=y+1:=wr (by omega) (by omega);obtain⟨z,z1,z2,z3⟩:=ih (y+1) (by omega) (by omega) (by omega);refine⟨z,z1,z2,?_⟩;rw[oB.l1_eq,hw,yY1 (y+1) (by omega) (by omega)];simp(disch:=omega)only[ss,oB.l2_eq];exact z3
theorem bH2 (n Y:Int) (hY:1≤Y) (hY2:Y≤9999) (h1:fst_ Y≤n) (h2:n<fst_ (Y+1)):∀(k:Nat) (y:Int),Y-y=k→1≤y→xC.l1 n y=xC.l2 Y (n-fst_ Y) 1:=by
 intro k
 induction k with
 | zero=>
  intro y hk hy;have e:y=Y:=by omega
  subst e;have hfb:=lU y (by omega) (by omega);have hfb1:=lU (y+1) (by omega) (by omega);have hw:w6 (y+1)=y+1:=wr (by omega) (by omega);rw[xC.l1_eq,hw,sK (y+1) (by omega) (by omega),sK y (by omega) (by omega)];simp(disch:=omega)only[ss]
 | succ k ih=>
  intro y hk hy;have hm:=oM (a:=y+1) (b:=Y) (by omega) (by omega);have hw:w6 (y+1)=y+1:=wr (by omega) (by omega);rw[xC.l1_eq,hw,sK (y+1) (by omega) (by omega)];simp(disch:=omega)only[ss];exact ih (y+1) (by omega) (by omega)
theorem kV1 (n:Int) (h1: -719162≤n) (h2:n≤2932896):∃y m d,kO1 n y m d∧oB.f n=some (y,m,d,0,())∧xC.f n=some (y,m,d,0,()):=by
 obtain⟨Y,y1,y2,y3,y4⟩:=oF2 n h1 h2;have hs:=iW Y y1;obtain⟨M,m1,m2,m3,m4⟩:=bZ1 Y (n-fst_ Y) (by omega) (by omega);have hc:=nN Y M m1 m2;have h5:=zI2 Y (n-fst_ Y) M y1 y2 (by omega) m2 m3 m4 (M-1).toNat 1 (by omega) (by omega);rw[dE2,Int.sub_zero]at h5;refine⟨Y,M,n-fst_ Y-cum Y M+1,⟨bR.2 ⟨y1,y2,by omega,by omega⟩,by omega⟩,?_,?_⟩
 ·have hz1:(n+719162)*400/146097+1≤9999:=by omega
  obtain⟨z,z1,z2,z3⟩:=kI2 n Y y1 y2 y3 y4 _ ((n+719162)*400/146097+1) rfl (by omega) hz1;have h4:=aI2 n Y y1 y3 y4 (z-Y).toNat z (by omega) z2;rw[oB.f_eq,uR.f_eq];have e1:w6 (n - -719162)=n+719162:=by rw[wr (by omega) (by omega)];omega
  have e2:w6 ((n+719162)*400)=(n+719162)*400:=wr (by omega) (by omega);simp(disch:=omega)only[ss,e1,e2,tdn (show 0≤(n+719162)*400 by omega),ge_iff_le];rw[z3,h4];exact h5.1
 ·have hlow:fst_ (Y+1) ≤ -719162+366*Y:=by unfold fst_;omega
  have hv:=bH2 n Y y1 y2 y3 y4 (Y-((n+719162)/366+1)).toNat ((n+719162)/366+1) (by omega) (by omega);have e1:w6 (n - -719162)=n+719162:=by rw[wr (by omega) (by omega)];omega
  rw[xC.f_eq,xO.f_eq,sK 1 (by omega) (by omega),sK 10000 (by omega) (by omega),tG2,wY];simp(disch:=omega)only[ss,e1,tdn (show 0≤n+719162 by omega),ge_iff_le];rw[hv];exact h5.2
theorem tdm (t k:Int) (hk:0<k):Int.tdiv t k=(if t%k≠0∧t<0 then t/k+1 else t/k)∧Int.tmod t k=(if t%k≠0∧t<0 then t%k-k else t%k):=by
 by_cases h:0≤t
 ·rw[if_neg (by omega),if_neg (by omega)];exact⟨tdn h k,tmn h k⟩
 ·have e:t = -(-t):=by omega
  have h1:Int.tdiv t k = -((-t)/k):=by rw[e,Int.neg_tdiv,tdn (by omega),Int.neg_neg]
  have h2:Int.tmod t k = -((-t)%k):=by rw[e,Int.neg_tmod,tmn (by omega),Int.neg_neg]
  have h3:=Int.emod_add_mul_ediv t k;have h4:=Int.emod_add_mul_ediv (-t) k;have b1:=Int.emod_nonneg t (show k≠0 by omega);have b2:=Int.emod_lt_of_pos t hk;have b3:=Int.emod_nonneg (-t) (show k≠0 by omega);have b4:=Int.emod_lt_of_pos (-t) hk;rw[h1,h2];by_cases hz:t%k=0
  ·rw[if_neg (by omega),if_neg (by omega)];have hz2:(-t)%k=0:=by have:k∣t:=Int.dvd_of_emod_eq_zero hz;exact Int.emod_eq_zero_of_dvd (Int.dvd_neg.2 this)
   have:(-t)/k = -(t/k):=Int.neg_ediv_of_dvd (Int.dvd_of_emod_eq_zero hz);exact⟨by omega,by omega⟩
  ·rw[if_pos ⟨hz,by omega⟩,if_pos ⟨hz,by omega⟩];have hq:(-t)%k=k-t%k:=by
    have e1: -t=(k-t%k)+k*(-(t/k)-1):=by rw[Int.mul_sub,Int.mul_neg];omega
    rw[e1,Int.add_mul_emod_self_left,Int.emod_eq_of_lt (by omega) (by omega)]
   have hd:(-t)/k = -(t/k)-1:=by
    have:k*((-t)/k)=k*(-(t/k)-1):=by rw[Int.mul_sub,Int.mul_neg];omega
    exact Int.eq_of_mul_eq_mul_left (by omega) this
   exact⟨by omega,by omega⟩
theorem iS1 (t:Int) (h1: -9000000000000000000≤t) (h2:t≤9000000000000000000):yI.f t=some (t/86400,t%86400,())∧pL.f t=some (t/86400,t%86400,()):=by
 obtain⟨e1,e2⟩:=tdm t 86400 (by omega);rw[yI.f_eq,pL.f_eq,iG.f_eq,e1,e2];by_cases c:t%86400≠0∧t<0
 ·rw[if_pos c,if_pos c];have q1:t/86400+1-1=t/86400:=by omega
  have q2:t%86400-86400+86400=t%86400:=by omega
  simp(disch:=omega)only[ss,q1,q2];exact⟨trivial,trivial⟩
 ·rw[if_neg c,if_neg c];simp(disch:=omega)only[ss];exact⟨trivial,trivial⟩
theorem lJ2 (t:Int):rM.f t=some (decide (-62135596800≤t∧t≤253402300799),())∧gH.f t=some (decide (-62135596800≤t∧t≤253402300799),()):=by
 rw[rM.f_eq,gH.f_eq];by_cases c: -62135596800≤t
 ·by_cases c2:t≤253402300799
  ·simp(disch:=omega)only[ss,ge_iff_le];exact⟨trivial,trivial⟩
  ·simp(disch:=omega)only[ss,ge_iff_le];exact⟨trivial,trivial⟩
 ·simp(disch:=omega)only[ss,ge_iff_le];exact⟨trivial,trivial⟩
def dgs :Nat→Nat→List UInt8
 | 0,_=>[]
 | w+1,n=>dgs w (n/10)++[UInt8.ofNat (48+n%10)]
theorem gM :∀(w n:Nat),(dgs w n).length=w
 | 0,_=>rfl
 | w+1,n=>by rw[dgs,cM2,gM w];rfl
theorem iJ :∀(w n:Nat),digs (dgs w n)
 | 0,_=>fun c h=>by cases h
 | w+1,n=>by rw[dgs,oN];refine⟨iJ w _,fun c h=>?_⟩;rw[kN2]at h;subst h;unfold dig;rw[of48 (by omega)];omega
theorem iQ :∀(w n:Nat),n<10 ^ w→dval 0 (dgs w n)=n
 | 0,n,h=>by
  have:n=0:=by simpa using h
  subst this;rfl
 | w+1,n,h=>by rw[Nat.pow_succ]at h;rw[dgs,cI,iQ w (n/10) (by omega)];have h8:=of48 (show n%10<10 by omega);generalize UInt8.ofNat (48+n%10)=c at h8;show 10*(n/10)+(c.toNat-48)=n;omega
theorem jN1 :∀w:Nat,dgs w 0=List.replicate w 48
 | 0=>rfl
 | w+1=>by rw[dgs,Nat.zero_div,jN1 w,List.replicate_succ'];rfl
theorem oI2 :∀(w n:Nat),n<10 ^ (w+1) → ∃z,z+(Lib.decDigits n).length=w+1∧List.replicate z 48++Lib.decDigits n=dgs (w+1) n:=by
 intro w
 induction w with
 | zero=>
  intro n h;have h:n<10:=by simpa using h
  have e:Lib.decDigits n=[UInt8.ofNat (48+n)]:=by rw[Lib.decDigits,dif_pos h]
  refine⟨0,by rw[e];rfl,?_⟩;rw[e,dgs,dgs,tP2 h];rfl
 | succ w ih=>
  intro n h;by_cases hn:n<10
  ·have e:Lib.decDigits n=[UInt8.ofNat (48+n)]:=by rw[Lib.decDigits,dif_pos hn]
   refine⟨w+1,by rw[e];rfl,?_⟩;rw[e,dgs,tP2 hn,Nat.div_eq_of_lt hn,jN1]
  ·have e:Lib.decDigits n=Lib.decDigits (n/10)++[UInt8.ofNat (48+n%10)]:=by rw[Lib.decDigits,dif_neg hn]
   obtain⟨z,h1,h2⟩:=ih (n/10) (by rw[Nat.pow_succ]at h;omega);refine⟨z,by rw[e,cM2,gM2];omega,?_⟩;rw[e,dgs,←h2,rM2]
theorem sN1 :∀n:Nat,Lib.repeatL [48] n=List.replicate n 48
 | 0=>rfl
 | n+1=>by rw[Lib.repeatL,sN1 n,List.replicate_succ];rfl
theorem sdig (w n:Nat) (h0:0<w) (hw:w≤4) (h:n<10 ^ w):zD.f (n:Int) (w:Int)=some (mkS (dgs w n),()):=by
 have hp:10 ^ w≤10 ^ 4:=Nat.pow_le_pow_right (by decide) hw;have hp:10 ^ w≤10000:=hp;have hI:nD.f (n:Int)=some (mkS (Lib.decDigits n),()):=by rw[lK n (by omega) (by omega),mF (by omega),cO2]
 obtain⟨w,rfl⟩:∃v,w=v+1:=⟨w-1,by omega⟩
 obtain⟨z,h1,h2⟩:=oI2 w n h;rw[zD.f_eq,hI];have hw':w6 (((w+1:Nat):Int)-((Lib.decDigits n).length:Int))=(z:Int):=by rw[wr (by omega) (by omega)];omega
 have hm:mm true (z:Int) 0=(z:Int):=by simp only[mm,cond_true];rw[if_neg (by omega)]
 have hR:aI.f (⟨#[48]⟩:ByteArray) (z:Int)=some (mkS (List.replicate z 48),()):=by rw[aI.f_sem];show(bif decide (0≤(z:Int))then(bif decide ((z:Int)≤1000000)then(bif decide (0<ByteArray.size ⟨#[48]⟩)then(bif decide (ByteArray.size ⟨#[48]⟩≤1000000)then some ((⟨(Lib.repeatL [48] (Int.toNat (z:Int))).toArray⟩:ByteArray),())else none)else none)else none)else none)=_;rw[cO2,sN1];have hs:ByteArray.size ⟨#[48]⟩=1:=rfl;simp(disch:=omega)only[ss,hs];rfl
 have hl:(List.replicate z (48:UInt8)).length=z:=List.length_replicate ..;simp(disch:=omega)only[ss,szS,hw',hm,hR,hl,cE,h2]
theorem tdig {n:Nat}:IntKind.u8.wrap (w6 (48+Int.tmod (n:Int) 10))=((UInt8.ofNat (48+n%10)).toNat:Int):=by rw[tmn (by omega),wr (by omega) (by omega),of48 (by omega),Go.IntWalk.u8_in _ ⟨by omega,by omega⟩];omega
theorem kF2 (w:Nat) (hw:w≤4):∀(k i n:Nat) (y:List UInt8),w-i=k→i≤w→n≤1000000→y.length=i→dC.l1 (n:Int) (w:Int) (i:Int) (I y)=some (mkS (dgs k n++y),()):=by
 have hlim:wC=17179869184:=rfl;intro k
 induction k with
 | zero=>
  intro i n y hk hi2 hn hy;rw[dC.l1_eq];simp(disch:=omega)only[ss,wF1];rfl
 | succ k ih=>
  intro i n y hk hi2 hn hy;have hIl:(I y).length=y.length:=by unfold I;rw[hM2]
  have e10:Int.tdiv (n:Int) 10=((n/10:Nat):Int):=by rw[tdn (by omega)];omega
  rw[dC.l1_eq,tdig,e10];have hc:[((UInt8.ofNat (48+n%10)).toNat:Int)]++I y=I (UInt8.ofNat (48+n%10)::y):=rfl;have hcl:[((UInt8.ofNat (48+n%10)).toNat:Int)].length=1:=rfl;simp(disch:=omega)only[ss,hIl,hcl,hlim,hc];have:=ih (i+1) (n/10) (UInt8.ofNat (48+n%10)::y) (by omega) (by omega) (by omega) (by rw[kM2,hy]);rw[yN2,xN2]at this;rw[this,dgs,rM2];rfl
theorem vdig (w n:Nat) (hw:w≤4) (hn:n≤1000000):dC.f (n:Int) (w:Int)=some (mkS (dgs w n),()):=by have:=kF2 w hw w 0 n [] (by omega) (by omega) hn rfl;rw[qM2,tM2]at this;rw[dC.f_eq];exact this
def lJ1 (y m d h i s:Nat):List UInt8:=(dgs 4 y++(dgs 2 m++dgs 2 d))++84::(dgs 2 h++(dgs 2 i++dgs 2 s))
theorem iX1 (y m d h i s:Nat) (hy:y<10000) (hm:m<100) (hd:d<100) (hh:h<100) (hi2:i<100) (hs:s<100):gB.f (mkS (lJ1 y m d h i s))=(dD.f (y:Int) (m:Int) (d:Int) (h:Int) (i:Int) (s:Int)).bind fun t3=>some (t3.1,t3.2.1,()):=by
 unfold lJ1;obtain⟨a,ha⟩:∃a,a=dgs 4 y++(dgs 2 m++dgs 2 d):=⟨_,rfl⟩
 obtain⟨b,hb⟩:∃b,b=dgs 2 h++(dgs 2 i++dgs 2 s):=⟨_,rfl⟩
 have la:a.length=8:=by rw[ha];simp[gM]
 have lb:b.length=6:=by rw[hb];simp[gM]
 have da:digs a:=by rw[ha,oN,oN];exact⟨iJ _ _,iJ _ _,iJ _ _⟩
 have db:digs b:=by rw[hb,oN,oN];exact⟨iJ _ _,iJ _ _,iJ _ _⟩
 have va:dval 0 a=y*10000+m*100+d:=by rw[ha,cI,cI,nJ (dgs 2 d),nJ (dgs 2 m),gM,gM,iQ 4 y hy,iQ 2 m hm,iQ 2 d hd];omega
 have vb:dval 0 b=h*10000+i*100+s:=by rw[hb,cI,cI,nJ (dgs 2 s),nJ (dgs 2 i),gM,gM,iQ 2 h (by omega),iQ 2 i (by omega),iQ 2 s (by omega)];omega
 rw[←ha,←hb];have hl:(a++84::b).length=15:=by rw[cM2,kM2];omega
 have h8:bt (mkS (a++84::b)) 8=84:=by
  have:=kI (mkS (a++84::b)) 8;have e:(a++84::b).getD 8 0=84:=by rw[dM2,cN2 (by omega),la];rfl
  have t:bt (mkS (a++84::b)) 8=(((a++84::b).getD 8 0).toNat:Int):=this;rw[e]at t;exact t
 have x1:(mkS (a++84::b)).extract 0 8=mkS a:=by rw[ex_S,bN2,←la];simp
 have x2:(mkS (a++84::b)).extract 9 15=mkS b:=by
  have:(a++84::b).drop 9=b:=by rw[show(9:Nat)=a.length+1 by omega,iP2];simp
  rw[ex_S,this];rw[qO2 (by omega)]
 have nA:=(snum a (by omega)).1 da;have nB:=(snum b (by omega)).1 db;rw[va]at nA;rw[vb]at nB;have t8:(8:Int).toNat=8:=rfl;have t9:(9:Int).toNat=9:=rfl;rw[gB.f_eq];simp(disch:=omega)only[ss,szS,hl,h8,gB.l1_eq,t8,t9,x1,x2,nA,nB,gB.l2_eq]
 rw[tdn (show(0:Int)≤((y*10000+m*100+d:Nat):Int) by omega),tdn (show(0:Int)≤((y*10000+m*100+d:Nat):Int) by omega),tmn (show(0:Int)≤((y*10000+m*100+d:Nat):Int) by omega),
  tdn (show(0:Int)≤((h*10000+i*100+s:Nat):Int) by omega),tdn (show(0:Int)≤((h*10000+i*100+s:Nat):Int) by omega),tmn (show(0:Int)≤((h*10000+i*100+s:Nat):Int) by omega)]
 have w1:w6 (((y*10000+m*100+d:Nat):Int)/10000)=(y:Int):=by rw[wr (by omega) (by omega)];omega
 have w2:w6 (((y*10000+m*100+d:Nat):Int)/100)=((y*100+m:Nat):Int):=by rw[wr (by omega) (by omega)];omega
 have w3:w6 (((h*10000+i*100+s:Nat):Int)/10000)=(h:Int):=by rw[wr (by omega) (by omega)];omega
 have w4:w6 (((h*10000+i*100+s:Nat):Int)/100)=((h*100+i:Nat):Int):=by rw[wr (by omega) (by omega)];omega
 rw[w1,w2,w3,w4,tmn (show(0:Int)≤((y*100+m:Nat):Int) by omega),tmn (show(0:Int)≤((h*100+i:Nat):Int) by omega)];rw[show((y*100+m:Nat):Int)%100=(m:Int) by omega,show((y*10000+m*100+d:Nat):Int)%100=(d:Int) by omega,show((h*100+i:Nat):Int)%100=(i:Int) by omega,show((h*10000+i*100+s:Nat):Int)%100=(s:Int) by omega]
theorem eI (y m d h i s n:Int) (hd:kO1 n y m d) (h1:0≤h∧h≤23) (h2:0≤i∧i≤59) (h3:0≤s∧s≤59):dD.f y m d h i s=some (n*86400+3600*h+60*i+s,0,()):=by have hb:=pU1 hd;rw[dD.f_eq,(nH1 y m d).1,if_pos hd.1,hd.2];simp(disch:=omega)only[ss,gt_iff_lt,dD.l1_eq]
theorem eJ2 {y m d:Int} (h:vM y m d=true):d≤31:=by have:=bR.1 h;have:=mQ y m;omega
theorem fG1 (t:Int) (h1: -62135596800≤t) (h2:t≤253402300799):∃s:List UInt8,s.length=15∧(∀c∈s,c=84∨dig c)∧uH.f t=some (mkS s,0,())∧rG.f t=some (mkS s,0,())∧gB.f (mkS s)=some (t,0,()):=by
 obtain⟨y,m,d,hd,e1,e2⟩:=kV1 (t/86400) (by omega) (by omega);obtain⟨hb1,hb2,hb3,hb4,_,_⟩:=pU1 hd;obtain⟨v1,v2,v3,v4⟩:=bR.1 hd.1;have v5:=eJ2 hd.1;obtain⟨yn,rfl⟩:=gN2 (show 0≤y by omega);obtain⟨mn,rfl⟩:=gN2 (show 0≤m by omega);obtain⟨dn',rfl⟩:=gN2 (show 0≤d by omega);obtain⟨sn,hsn⟩:=gN2 (show 0≤t%86400 by omega);have hsl:sn<86400:=by omega
 obtain⟨g1,g2⟩:=iS1 t (by omega) (by omega);rw[hsn]at g1 g2;have w1:w6 (Int.tdiv (sn:Int) 3600)=((sn/3600:Nat):Int):=by rw[tdn (by omega),wr (by omega) (by omega)];omega
 have w2:Int.tmod (w6 (Int.tdiv (sn:Int) 60)) 60=((sn/60%60:Nat):Int):=by rw[tdn (by omega),wr (by omega) (by omega),tmn (by omega)];omega
 have w3:Int.tmod (sn:Int) 60=((sn%60:Nat):Int):=by rw[tmn (by omega)];omega
 have q4:(4:Int)=((4:Nat):Int):=rfl;have q2:(2:Int)=((2:Nat):Int):=rfl;have s1:zD.f (yn:Int) 4=some (mkS (dgs 4 yn),()):=sdig 4 yn (by omega) (by omega) (by omega);have s2:zD.f (mn:Int) 2=some (mkS (dgs 2 mn),()):=sdig 2 mn (by omega) (by omega) (by omega);have s3:zD.f (dn':Int) 2=some (mkS (dgs 2 dn'),()):=sdig 2 dn' (by omega) (by omega) (by omega);have s4:zD.f ((sn/3600:Nat):Int) 2=some (mkS (dgs 2 (sn/3600)),()):=sdig 2 _ (by omega) (by omega) (by omega);have s5:zD.f ((sn/60%60:Nat):Int) 2=some (mkS (dgs 2 (sn/60%60)),()):=sdig 2 _ (by omega) (by omega) (by omega);have s6:zD.f ((sn%60:Nat):Int) 2=some (mkS (dgs 2 (sn%60)),()):=sdig 2 _ (by omega) (by omega) (by omega);have u1:dC.f (yn:Int) 4=some (mkS (dgs 4 yn),()):=vdig 4 yn (by omega) (by omega);have u2:dC.f (mn:Int) 2=some (mkS (dgs 2 mn),()):=vdig 2 mn (by omega) (by omega);have u3:dC.f (dn':Int) 2=some (mkS (dgs 2 dn'),()):=vdig 2 dn' (by omega) (by omega);have u4:dC.f ((sn/3600:Nat):Int) 2=some (mkS (dgs 2 (sn/3600)),()):=vdig 2 _ (by omega) (by omega);have u5:dC.f ((sn/60%60:Nat):Int) 2=some (mkS (dgs 2 (sn/60%60)),()):=vdig 2 _ (by omega) (by omega);have u6:dC.f ((sn%60:Nat):Int) 2=some (mkS (dgs 2 (sn%60)),()):=vdig 2 _ (by omega) (by omega);have hT:(⟨#[84]⟩:ByteArray)=mkS [84]:=rfl;have ha:dgs 4 yn++dgs 2 mn++dgs 2 dn'++[84]++dgs 2 (sn/3600)++dgs 2 (sn/60%60)++dgs 2 (sn%60)=lJ1 yn mn dn' (sn/3600) (sn/60%60) (sn%60):=by unfold lJ1;simp
 refine⟨lJ1 yn mn dn' (sn/3600) (sn/60%60) (sn%60),by unfold lJ1;simp[gM],?_,?_,?_,?_⟩
 ·intro c hc;unfold lJ1 at hc;simp only[pM2,jM2]at hc;rcases hc with(hc | hc | hc) | hc | hc | hc | hc
  ·exact .inr (iJ _ _ c hc)
  ·exact .inr (iJ _ _ c hc)
  ·exact .inr (iJ _ _ c hc)
  ·exact .inl hc
  ·exact .inr (iJ _ _ c hc)
  ·exact .inr (iJ _ _ c hc)
  ·exact .inr (iJ _ _ c hc)
 ·rw[uH.f_eq,g1];simp(disch:=omega)only[ss,e1,s1,s2,s3,hT,w1,w2,w3,s4,s5,s6,szS,cE,cM2,gM2,gM,ha]
 ·have hM:gH.f t=some (true,()):=by rw[(lJ2 t).2,dp ⟨h1,h2⟩]
  rw[rG.f_eq,hM];simp(disch:=omega)only[ss,g2,e2,u1,u2,u3,hT,w1,w2,w3,u4,u5,u6,szS,cE,cM2,gM2,gM,ha]
 ·rw[iX1 yn mn dn' _ _ _ (by omega) (by omega) (by omega) (by omega) (by omega) (by omega),eI _ _ _ _ _ _ (t/86400) hd (by omega) (by omega) (by omega)];simp only[eM2]
  congr 2
  omega
def opt (b:Bool) (name v:List UInt8):List (List UInt8):=bif b then [name++61::v]else []
def optU (b:Bool) (u:Up):List Up:=bif b then [u]else []
def tl :List (List UInt8)→List UInt8
 | []=>[]
 | a::l=>59::(a++tl l)
theorem sV1 :∀(l m:List (List UInt8)),tl (l++m)=tl l++tl m
 | [],m=>rfl
 | a::l,m=>by show 59::(a++tl (l++m))=(59::(a++tl l))++tl m;rw[sV1 l m];simp
theorem fE2 :∀(a:List UInt8) (l:List (List UInt8)),jn 59 (a::l)=a++tl l
 | a,[]=>by simp[jn,tl]
 | a,b::l=>by show a++59::jn 59 (b::l)=_;rw[fE2 b l];rfl
theorem tL (b:Bool) (name v:List UInt8):(tl (opt b name v)).length≤name.length+v.length+2:=by
 cases b with
 | false=>simp[opt,tl]
 | true=>
  simp[opt,tl];omega
theorem lC1 (name v s:List UInt8) (b:Bool) (hn:name.length≤20) (hv:v.length≤3000) (hs:s.length≤100000):rF.f (mkS name) (mkS v) b (mkS s,())=some ((mkS (s++tl (opt b name v)),()),()):=by
 rw[rF.f_eq]
 cases b with
 | false=>
  simp only[cond_false];simp[opt,tl]
 | true=>
  have h59:(⟨#[59]⟩:ByteArray)=mkS [59]:=rfl;have h61:(⟨#[61]⟩:ByteArray)=mkS [61]:=rfl;simp(disch:=omega)only[ss,h59,h61,cE,szS,cM2,gM2];have:s++([59]++name++[61]++v)=s++tl (opt true name v):=by simp[opt,tl]
  rw[this]
theorem iM1 (c:UInt8):∀xs:List (List UInt8),Lib.join xs [c]=jn c xs
 | []=>rfl
 | [a]=>by simp[Lib.join,List.intercalate,jn]
 | a::b::l=>by have ih:=iM1 c (b::l);unfold Lib.join List.intercalate at ih ⊢;show _=a++c::jn c (b::l);rw[←ih];simp[List.intersperse]
theorem bV1 (xs:List (List UInt8)) (h:xs.length≤1000) (hl:(jn 44 xs).length≤1000000):tG.f (xs.map mkS) ⟨#[44]⟩=some (mkS (jn 44 xs),()):=by
 have hlim:wC=17179869184:=rfl;have e:nV (xs.map mkS) ⟨#[44]⟩=jn 44 xs:=by
  unfold nV;rw[List.map_map]
  have:(xs.map ((fun x:ByteArray=>x.data.toList)∘mkS))=xs:=by have:((fun x:ByteArray=>x.data.toList)∘mkS)=id:=rfl;rw[this,List.map_id]
  rw[this];exact iM1 44 xs
 rw[tG.f_sem];show xG2 (xs.map mkS) ⟨#[44]⟩=_;unfold xG2;rw[e];simp(disch:=omega)only[ss,hM2];rfl
theorem lD2 :∀(k u:Nat),u<10 ^ (k+1)→(Lib.decDigits u).length≤k+1:=by
 intro k
 induction k with
 | zero=>intro u h;rw[tP1,Lib.nDigits_small (by simpa using h)];omega
 | succ k ih=>
  intro u h;by_cases hu:u<10
  ·rw[tP1,Lib.nDigits_small hu];omega
  ·have:=ih (u/10) (by rw[Nat.pow_succ]at h;omega);rw[tP1]at this ⊢;rw[Lib.nDigits_big hu];omega
theorem iN (n:Int) (h0: -999≤n) (h1:n≤9999):(Lib.itoa n).length≤4:=by
 by_cases hn:n<0
 ·rw[lG hn,kM2];have:=lD2 2 n.natAbs (by omega);omega
 ·rw[mF hn];exact lD2 3 n.toNat (by omega)
theorem iU1 {n:Int}:∀c∈Lib.itoa n,c=45∨dig c:=by
 intro c hc;by_cases hn:n<0
 ·rw[lG hn]at hc;rcases jM2.1 hc with h | h
  ·exact .inl h
  ·exact .inr (kV _ c h)
 ·rw[mF hn]at hc;exact .inr (kV _ c hc)
theorem dM {n:Int} {c:UInt8} (h1:c≠45) (h2:¬dig c):c∉Lib.itoa n:=fun h=>(iU1 c h).elim h1 h2
theorem mB1 (k:Nat):∀l:List (List UInt8),(∀s∈l,s.length≤k)→tot l≤k*l.length
 | [],_=>iM2 _
 | a::l,h=>by
  have h1:=h a (by simp);have h2:=mB1 k l fun s hs=>h s (lM2 _ hs)
  simp only[tot,kM2];rw[Nat.mul_add];omega
def small (l:List Int):Prop:=∀n∈l,-366≤n∧n≤366
theorem qI (l:List Int) (h:l.length≤60) (hb:small l):(jn 44 (l.map Lib.itoa)).length≤300:=by
 have h1:=mU1 44 (l.map Lib.itoa)
 have h2:=mB1 4 (l.map Lib.itoa) fun s hs=>by obtain⟨n,hn,e⟩:=yM2.1 hs;rw[←e];have:=hb n hn;exact iN n (by omega) (by omega)
 rw[hM2]at h1 h2;omega
theorem vD1 (l:List Int) (h:l.length≤60) (hb:small l):wE.f l=some (mkS (jn 44 (l.map Lib.itoa)),()):=by
 have hlim:wC=17179869184:=rfl;have hlen:=qI l h hb;have hJ:=bV1 (l.map Lib.itoa) (by rw[hM2];omega) (by omega);have key:∀(k i:Nat),l.length-i=k→i≤l.length→wE.l1 l l.length i (((l.take i).map Lib.itoa).map mkS)=some (mkS (jn 44 (l.map Lib.itoa)),()):=by
  intro k
  induction k with
  | zero=>
   intro i hk hil;have e:i=l.length:=by omega
   subst e;rw[wE.l1_eq,fO2,hJ];simp(disch:=omega)only[ss]
  | succ k ih=>
   intro i hk hil;have hlt:i<l.length:=by omega
   have hn:=hb _ (sC 0 hlt);have hI:=lK (l.getD i 0) (by omega) (by omega);have:=ih (i+1) (by omega) (by omega);rw[kE 0 hlt,uM2,uM2]at this;have hl1:(((l.take i).map Lib.itoa).map mkS).length=i:=by simp;omega
   rw[wE.l1_eq];simp(disch:=omega)only[ss,hI,hl1,gM2,hlim];exact this
 have:=key _ 0 rfl (iM2 _);rw[tM2]at this;rw[wE.f_eq];exact this
theorem rU (name:List UInt8) (l:List Int) (s:List UInt8) (hn:name.length≤20) (h:l.length≤60) (hb:small l) (hs:s.length≤100000):
  cF.f (mkS name) l (((mkS s,()),()),())=some ((((mkS (s++tl (opt (decide ((l.length:Int)>0)) name (jn 44 (l.map Lib.itoa)))),()),()),()),()):=by
 have hl:=qI l h hb;rw[cF.f_eq,vD1 l h hb];simp only[eM2];rw[lC1 name _ s _ hn (by omega) hs];rfl
def dt (d:Dy):List UInt8:=(if d.1=0 then []else Lib.itoa d.1)++wd.getD d.2.1.toNat []
def rP (l:List Dy):Prop:=∀d∈l,-53≤d.1∧d.1≤53∧0≤d.2.1∧d.2.1≤6
theorem fw7 :fw.length=7:=rfl
theorem wd7 :wd.length=7:=rfl
theorem kW {α:Type} {l:List α} {z:α} {i:Nat} (h:¬i<l.length):l.getD i z=z:=by rw[dM2,kO2 (by omega)];rfl
theorem dC2 (i:Nat):(fw.getD i []).length≤8:=by
 by_cases h:i<fw.length
 ·exact(show ∀s∈fw,s.length≤8 by decide) _ (sC [] h)
 ·rw[kW h];exact iM2 _
theorem bH1 (i:Nat):(wd.getD i []).length≤2:=by
 by_cases h:i<wd.length
 ·exact(show ∀s∈wd,s.length≤2 by decide) _ (sC [] h)
 ·rw[kW h];exact iM2 _
theorem tT1 (d:Dy) (h: -53≤d.1∧d.1≤53):(dt d).length≤6:=by
 have h1:=bH1 d.2.1.toNat;have h2:=iN d.1 (by omega) (by omega);unfold dt;rw[cM2];split
 ·rw[xM2];omega
 ·omega
theorem gZ (l:List Dy) (h:l.length≤60) (hb:rP l):(jn 44 (l.map dt)).length≤420:=by
 have h1:=mU1 44 (l.map dt)
 have h2:=mB1 6 (l.map dt) fun s hs=>by obtain⟨n,hn,e⟩:=yM2.1 hs;rw[←e];have:=hb n hn;exact tT1 n ⟨this.1,this.2.1⟩
 rw[hM2]at h1 h2;omega
theorem kP1 (l:List Dy) (h:l.length≤60) (hb:rP l):tE.f l=some (mkS (jn 44 (l.map dt)),()):=by
 have hlim:wC=17179869184:=rfl;have hlen:=gZ l h hb;have hJ:=bV1 (l.map dt) (by rw[hM2];omega) (by omega);have key:∀(k i:Nat),l.length-i=k→i≤l.length→tE.l1 l l.length i (((l.take i).map dt).map mkS)=some (mkS (jn 44 (l.map dt)),()):=by
  intro k
  induction k with
  | zero=>
   intro i hk hil;have e:i=l.length:=by omega
   subst e;rw[tE.l1_eq,fO2,hJ];simp(disch:=omega)only[ss]
  | succ k ih=>
   intro i hk hil;have hlt:i<l.length:=by omega
   have hn:=hb _ (sC ((0,0,()):Dy) hlt);have:=ih (i+1) (by omega) (by omega);rw[kE ((0,0,()):Dy) hlt,uM2,uM2]at this;have hl1:(((l.take i).map dt).map mkS).length=i:=by simp;omega
   have hs1:[dt (l.getD i ((0,0,()):Dy))].map mkS=[mkS (dt (l.getD i ((0,0,()):Dy)))]:=rfl;have hs2:[l.getD i ((0,0,()):Dy)].map dt=[dt (l.getD i ((0,0,()):Dy))]:=rfl;rw[hs2,hs1]at this;have hdl:=tT1 (l.getD i ((0,0,()):Dy)) ⟨hn.1,hn.2.1⟩;rw[tE.l1_eq];generalize hd:l.getD i ((0,0,()):Dy)=d at hn this hdl;have hd':l.getD i ((0,0,()):Int×Int×Unit)=d:=hd;have hI:=lK d.1 (by omega) (by omega);have hgw:=gm wd d.2.1.toNat (by rw[wd7];omega);have hwl:((wd.map mkS).length:Int)=7:=rfl;have hl4:=iN d.1 (by omega) (by omega);have hl2:=bH1 d.2.1.toNat;by_cases c:d.1=0
   ·have e:dt d=wd.getD d.2.1.toNat []:=by unfold dt;rw[if_pos c];rfl
    rw[e]at this;simp(disch:=omega)only[ss,hd',mJ,hwl,hgw,tE.l2_eq,hl1,gM2,hlim];exact this
   ·have e:dt d=Lib.itoa d.1++wd.getD d.2.1.toNat []:=by unfold dt;rw[if_neg c]
    rw[e]at this;simp(disch:=omega)only[ss,hd',mJ,hwl,hgw,hI,szS,cE,tE.l2_eq,hl1,gM2,hlim];exact this
 have:=key _ 0 rfl (iM2 _);rw[tM2]at this;rw[tE.f_eq];exact this
theorem eM {l:List Int} {lo hi:Int} {z:Bool} (h:wi l lo hi z) (h1: -366≤lo) (h2:hi≤366):l.length≤60∧small l:=by refine⟨h.2,fun n hn=>?_⟩;obtain⟨j,hj,e⟩:=pP2 hn;have h3:=(h.1 j hj).1;unfold okI at h3;rw[dI 0 hj,e]at h3;omega
theorem sS1 {l:List Dy} (h:dwi l):l.length≤60∧rP l:=by refine⟨h.2,fun n hn=>?_⟩;obtain⟨j,hj,e⟩:=pP2 hn;have h3:=h.1 j hj;unfold okD gD at h3;rw[dI _ hj,e]at h3;exact⟨h3.1,h3.2.1,h3.2.2.1,h3.2.2.2.1⟩
open Classical in
/-- A moment's text. -/
noncomputable def utx (t:Int):List UInt8:=if h: -62135596800≤t∧t≤253402300799 then Classical.choose (fG1 t h.1 h.2)else []
theorem pO (t:Int) (h: -62135596800≤t∧t≤253402300799):(utx t).length=15∧(∀c∈utx t,c=84∨dig c)∧uH.f t=some (mkS (utx t),0,())∧rG.f t=some (mkS (utx t),0,())∧gB.f (mkS (utx t))=some (t,0,()):=by unfold utx;rw[dif_pos h];exact Classical.choose_spec (fG1 t h.1 h.2)
theorem rJ (t:Int) (h: -62135596800≤t∧t≤253402300799):(utx t).length≤15∧uH.f t=some (mkS (utx t),0,())∧gB.f (mkS (utx t))=some (t,0,()):=by obtain⟨h1,_,h2,_,h3⟩:=pO t h;exact⟨by omega,h2,h3⟩
theorem nC1 (f iv ct un wk:Int) (en:Bool) (mo we yd md:List Int) (dy:List Dy) (ho mi se po:List Int) (hp:mayP f iv ct un wk en mo we yd md dy ho mi se po):
  (1≤f∧f≤7∧1≤iv∧iv≤1000)∧(0≤ct∧ct≤4096∧0≤wk∧wk≤6)∧(-62135596800≤un∧un≤253402300799)∧(mo.length≤60∧small mo)∧(we.length≤60∧small we)∧(yd.length≤60∧small yd)∧(md.length≤60∧small md)∧(dy.length≤60∧rP dy)∧(ho.length≤60∧small ho)∧(mi.length≤60∧small mi)∧(se.length≤60∧small se)∧(po.length≤60∧small po):=by
 obtain⟨⟨h1,h2,h3⟩,⟨l1,l2,l3,l4,l5,l6,l7,l8,l9,_⟩,_⟩:=hp;refine⟨⟨h1.1,h1.2.1,h1.2.2.1,h1.2.2.2.1⟩,⟨h1.2.2.2.2.1,h1.2.2.2.2.2.1,h1.2.2.2.2.2.2.1,h1.2.2.2.2.2.2.2⟩,?_,eM l1 (by omega) (by omega),eM l2 (by omega) (by omega),eM l3 (by omega) (by omega),eM l4 (by omega) (by omega),sS1 l9,eM l5 (by omega) (by omega),eM l6 (by omega) (by omega),eM l7 (by omega) (by omega),eM l8 (by omega) (by omega)⟩
 cases en with
 | true=>exact(h2 rfl).1
 | false=>rw[h3 rfl];omega
section
variable (f iv ct un wk : Int) (en : Bool) (mo we yd md : List Int) (dy : List Dy) (ho mi se po : List Int)
noncomputable def rest :List (List UInt8):=
 opt (!decide (iv=1)) [73,78,84,69,82,86,65,76] (Lib.itoa iv)++(opt (!decide (ct=0)) [67,79,85,78,84] (Lib.itoa ct)++(opt (en) [85,78,84,73,76] (utx un)++(opt (decide ((mo.length:Int)>0)) [66,89,77,79,78,84,72] (jn 44 (mo.map Lib.itoa))++(opt (decide ((we.length:Int)>0)) [66,89,87,69,69,75,78,79] (jn 44 (we.map Lib.itoa))++(opt (decide ((yd.length:Int)>0)) [66,89,89,69,65,82,68,65,89] (jn 44 (yd.map Lib.itoa))++(opt (decide ((md.length:Int)>0)) [66,89,77,79,78,84,72,68,65,89] (jn 44 (md.map Lib.itoa))++(opt (decide ((dy.length:Int)>0)) [66,89,68,65,89] (jn 44 (dy.map dt))++(opt (decide ((ho.length:Int)>0)) [66,89,72,79,85,82] (jn 44 (ho.map Lib.itoa))++(opt (decide ((mi.length:Int)>0)) [66,89,77,73,78,85,84,69] (jn 44 (mi.map Lib.itoa))++(opt (decide ((se.length:Int)>0)) [66,89,83,69,67,79,78,68] (jn 44 (se.map Lib.itoa))++(opt (decide ((po.length:Int)>0)) [66,89,83,69,84,80,79,83] (jn 44 (po.map Lib.itoa))++(opt (!decide (wk=0)) [87,75,83,84] (wd.getD wk.toNat [])))))))))))))
noncomputable def qQ :List (List UInt8):=([70,82,69,81]++61::fw.getD (f-1).toNat [])::rest iv ct un wk en mo we yd md dy ho mi se po
def ups :List Up:=
 .fr f::(optU (!decide (iv=1)) (.iv iv)++(optU (!decide (ct=0)) (.ct ct)++(optU (en) (.un un)++(optU (decide ((mo.length:Int)>0)) (.mo mo)++(optU (decide ((we.length:Int)>0)) (.we we)++(optU (decide ((yd.length:Int)>0)) (.yd yd)++(optU (decide ((md.length:Int)>0)) (.md md)++(optU (decide ((dy.length:Int)>0)) (.dy dy)++(optU (decide ((ho.length:Int)>0)) (.ho ho)++(optU (decide ((mi.length:Int)>0)) (.mi mi)++(optU (decide ((se.length:Int)>0)) (.se se)++(optU (decide ((po.length:Int)>0)) (.po po)++(optU (!decide (wk=0)) (.wk wk))))))))))))))
theorem pB1 (hM:xA.f (f,iv,ct,un,wk,en,mo,we,yd,md,dy,ho,mi,se,po,())=some (true,())) (hp:mayP f iv ct un wk en mo we yd md dy ho mi se po):kJ.f (f,iv,ct,un,wk,en,mo,we,yd,md,dy,ho,mi,se,po,())=some (mkS (jn 59 (qQ f iv ct un wk en mo we yd md dy ho mi se po)),0,())∧(jn 59 (qQ f iv ct un wk en mo we yd md dy ho mi se po)).length≤4096:=by
 obtain⟨b1,b2,b3,bmo,bwe,byd,bmd,bdy,bho,bmi,bse,bpo⟩:=nC1 f iv ct un wk en mo we yd md dy ho mi se po hp;have hwf:(fw.getD (f-1).toNat []).length≤8:=dC2 _;have hwk:(wd.getD wk.toNat []).length≤2:=bH1 _;obtain⟨u1,u2,u3⟩:=rJ un b3;have li:=iN iv (by omega) (by omega);have lc:=iN ct (by omega) (by omega);obtain⟨s0,e0⟩:∃s,s=[70,82,69,81]++61::fw.getD (f-1).toNat []:=⟨_,rfl⟩
 have n0:([70,82,69,81]:List UInt8).length=4:=rfl;have l0:s0.length≤13:=by rw[e0];simp only[cM2,kM2,xM2];omega
 have p1:=lC1 [73,78,84,69,82,86,65,76] (Lib.itoa iv) s0 (!decide (iv=1)) (by decide) (by omega) (by omega);have q1:=tL (!decide (iv=1)) [73,78,84,69,82,86,65,76] (Lib.itoa iv);obtain⟨s1,e1⟩:∃s,s=s0++tl (opt (!decide (iv=1)) [73,78,84,69,82,86,65,76] (Lib.itoa iv)):=⟨_,rfl⟩
 rw[←e1]at p1;have n1:([73,78,84,69,82,86,65,76]:List UInt8).length=8:=rfl;have l1:s1.length≤s0.length+14:=by rw[e1,cM2];omega
 have p2:=lC1 [67,79,85,78,84] (Lib.itoa ct) s1 (!decide (ct=0)) (by decide) (by omega) (by omega);have q2:=tL (!decide (ct=0)) [67,79,85,78,84] (Lib.itoa ct);obtain⟨s2,e2⟩:∃s,s=s1++tl (opt (!decide (ct=0)) [67,79,85,78,84] (Lib.itoa ct)):=⟨_,rfl⟩
 rw[←e2]at p2;have n2:([67,79,85,78,84]:List UInt8).length=5:=rfl;have l2:s2.length≤s1.length+11:=by rw[e2,cM2];omega
 have p3:=lC1 [85,78,84,73,76] (utx un) s2 (en) (by decide) (by omega) (by omega);have q3:=tL (en) [85,78,84,73,76] (utx un);obtain⟨s3,e3⟩:∃s,s=s2++tl (opt (en) [85,78,84,73,76] (utx un)):=⟨_,rfl⟩
 rw[←e3]at p3;have n3:([85,78,84,73,76]:List UInt8).length=5:=rfl;have l3:s3.length≤s2.length+22:=by rw[e3,cM2];omega
 have lmo:=qI mo bmo.1 bmo.2;have p4:=rU [66,89,77,79,78,84,72] mo s3 (by decide) bmo.1 bmo.2 (by omega);have q4:=tL (decide ((mo.length:Int)>0)) [66,89,77,79,78,84,72] (jn 44 (mo.map Lib.itoa));obtain⟨s4,e4⟩:∃s,s=s3++tl (opt (decide ((mo.length:Int)>0)) [66,89,77,79,78,84,72] (jn 44 (mo.map Lib.itoa))):=⟨_,rfl⟩
 rw[←e4]at p4;have n4:([66,89,77,79,78,84,72]:List UInt8).length=7:=rfl;have l4:s4.length≤s3.length+309:=by rw[e4,cM2];omega
 have lwe:=qI we bwe.1 bwe.2;have p5:=rU [66,89,87,69,69,75,78,79] we s4 (by decide) bwe.1 bwe.2 (by omega);have q5:=tL (decide ((we.length:Int)>0)) [66,89,87,69,69,75,78,79] (jn 44 (we.map Lib.itoa));obtain⟨s5,e5⟩:∃s,s=s4++tl (opt (decide ((we.length:Int)>0)) [66,89,87,69,69,75,78,79] (jn 44 (we.map Lib.itoa))):=⟨_,rfl⟩
 rw[←e5]at p5;have n5:([66,89,87,69,69,75,78,79]:List UInt8).length=8:=rfl;have l5:s5.length≤s4.length+310:=by rw[e5,cM2];omega
 have lyd:=qI yd byd.1 byd.2;have p6:=rU [66,89,89,69,65,82,68,65,89] yd s5 (by decide) byd.1 byd.2 (by omega);have q6:=tL (decide ((yd.length:Int)>0)) [66,89,89,69,65,82,68,65,89] (jn 44 (yd.map Lib.itoa));obtain⟨s6,e6⟩:∃s,s=s5++tl (opt (decide ((yd.length:Int)>0)) [66,89,89,69,65,82,68,65,89] (jn 44 (yd.map Lib.itoa))):=⟨_,rfl⟩
 rw[←e6]at p6;have n6:([66,89,89,69,65,82,68,65,89]:List UInt8).length=9:=rfl;have l6:s6.length≤s5.length+311:=by rw[e6,cM2];omega
 have lmd:=qI md bmd.1 bmd.2;have p7:=rU [66,89,77,79,78,84,72,68,65,89] md s6 (by decide) bmd.1 bmd.2 (by omega);have q7:=tL (decide ((md.length:Int)>0)) [66,89,77,79,78,84,72,68,65,89] (jn 44 (md.map Lib.itoa));obtain⟨s7,e7⟩:∃s,s=s6++tl (opt (decide ((md.length:Int)>0)) [66,89,77,79,78,84,72,68,65,89] (jn 44 (md.map Lib.itoa))):=⟨_,rfl⟩
 rw[←e7]at p7;have n7:([66,89,77,79,78,84,72,68,65,89]:List UInt8).length=10:=rfl;have l7:s7.length≤s6.length+312:=by rw[e7,cM2];omega
 have ldy:=gZ dy bdy.1 bdy.2;have p8:=lC1 [66,89,68,65,89] (jn 44 (dy.map dt)) s7 (decide ((dy.length:Int)>0)) (by decide) (by omega) (by omega);have q8:=tL (decide ((dy.length:Int)>0)) [66,89,68,65,89] (jn 44 (dy.map dt));obtain⟨s8,e8⟩:∃s,s=s7++tl (opt (decide ((dy.length:Int)>0)) [66,89,68,65,89] (jn 44 (dy.map dt))):=⟨_,rfl⟩
 rw[←e8]at p8;have n8:([66,89,68,65,89]:List UInt8).length=5:=rfl;have l8:s8.length≤s7.length+427:=by rw[e8,cM2];omega
 have lho:=qI ho bho.1 bho.2;have p9:=rU [66,89,72,79,85,82] ho s8 (by decide) bho.1 bho.2 (by omega);have q9:=tL (decide ((ho.length:Int)>0)) [66,89,72,79,85,82] (jn 44 (ho.map Lib.itoa));obtain⟨s9,e9⟩:∃s,s=s8++tl (opt (decide ((ho.length:Int)>0)) [66,89,72,79,85,82] (jn 44 (ho.map Lib.itoa))):=⟨_,rfl⟩
 rw[←e9]at p9;have n9:([66,89,72,79,85,82]:List UInt8).length=6:=rfl;have l9:s9.length≤s8.length+308:=by rw[e9,cM2];omega
 have lmi:=qI mi bmi.1 bmi.2;have p10:=rU [66,89,77,73,78,85,84,69] mi s9 (by decide) bmi.1 bmi.2 (by omega);have q10:=tL (decide ((mi.length:Int)>0)) [66,89,77,73,78,85,84,69] (jn 44 (mi.map Lib.itoa));obtain⟨s10,e10⟩:∃s,s=s9++tl (opt (decide ((mi.length:Int)>0)) [66,89,77,73,78,85,84,69] (jn 44 (mi.map Lib.itoa))):=⟨_,rfl⟩
 rw[←e10]at p10;have n10:([66,89,77,73,78,85,84,69]:List UInt8).length=8:=rfl;have l10:s10.length≤s9.length+310:=by rw[e10,cM2];omega
 have lse:=qI se bse.1 bse.2;have p11:=rU [66,89,83,69,67,79,78,68] se s10 (by decide) bse.1 bse.2 (by omega);have q11:=tL (decide ((se.length:Int)>0)) [66,89,83,69,67,79,78,68] (jn 44 (se.map Lib.itoa));obtain⟨s11,e11⟩:∃s,s=s10++tl (opt (decide ((se.length:Int)>0)) [66,89,83,69,67,79,78,68] (jn 44 (se.map Lib.itoa))):=⟨_,rfl⟩
 rw[←e11]at p11;have n11:([66,89,83,69,67,79,78,68]:List UInt8).length=8:=rfl;have l11:s11.length≤s10.length+310:=by rw[e11,cM2];omega
 have lpo:=qI po bpo.1 bpo.2;have p12:=rU [66,89,83,69,84,80,79,83] po s11 (by decide) bpo.1 bpo.2 (by omega);have q12:=tL (decide ((po.length:Int)>0)) [66,89,83,69,84,80,79,83] (jn 44 (po.map Lib.itoa));obtain⟨s12,e12⟩:∃s,s=s11++tl (opt (decide ((po.length:Int)>0)) [66,89,83,69,84,80,79,83] (jn 44 (po.map Lib.itoa))):=⟨_,rfl⟩
 rw[←e12]at p12;have n12:([66,89,83,69,84,80,79,83]:List UInt8).length=8:=rfl;have l12:s12.length≤s11.length+310:=by rw[e12,cM2];omega
 have p13:=lC1 [87,75,83,84] (wd.getD wk.toNat []) s12 (!decide (wk=0)) (by decide) (by omega) (by omega);have q13:=tL (!decide (wk=0)) [87,75,83,84] (wd.getD wk.toNat []);obtain⟨s13,e13⟩:∃s,s=s12++tl (opt (!decide (wk=0)) [87,75,83,84] (wd.getD wk.toNat [])):=⟨_,rfl⟩
 rw[←e13]at p13;have n13:([87,75,83,84]:List UInt8).length=4:=rfl;have l13:s13.length≤s12.length+8:=by rw[e13,cM2];omega
 have hfin:s13=jn 59 (qQ f iv ct un wk en mo we yd md dy ho mi se po):=by unfold qQ rest;rw[fE2,←e0];simp only[sV1];rw[e13,e12,e11,e10,e9,e8,e7,e6,e5,e4,e3,e2,e1];simp only[rM2]
 refine⟨?_,by rw[←hfin];omega⟩;have hw:w6 (f-1)=f-1:=wr (by omega) (by omega);have hgf:=gm fw (f-1).toNat (by rw[fw7];omega);have hgw:=gm wd wk.toNat (by rw[wd7];omega);have hfl:((fw.map mkS).length:Int)=7:=rfl;have hwl:((wd.map mkS).length:Int)=7:=rfl;have hIi:=lK iv (by omega) (by omega);have hIc:=lK ct (by omega) (by omega);have hD:=kP1 dy bdy.1 bdy.2;have hF:(⟨#[70,82,69,81,61]⟩:ByteArray)=mkS [70,82,69,81,61]:=rfl;have hs0:[70,82,69,81,61]++fw.getD (f-1).toNat []=s0:=by rw[e0];rfl
 rw[kJ.f_eq];simp only[hM,eM2,oN2,cond_false,cE1,hw,mJ,hgf,hF,cE,hs0,u2,hIi,hIc,hD,hgw,szS,hfl,hwl,nm0,nm1,nm2,nm3,nm4,nm5,nm6,nm7,nm8,nm9,nm10,nm11,nm12,nm13];simp(disch:=omega)only[ss,kM2,xM2,p1,p2,p3,p4,p5,p6,p7,p8,p9,p10,p11,p12,p13];rw[hfin]
end
theorem rH (b:Bool) (name v:List UInt8) (u:Up) (h:b=true→Good (name++61::v) u):All2 Good (opt b name v) (optU b u):=by
 cases b with
 | false=>exact trivial
 | true=>exact⟨h rfl,trivial⟩
theorem vH (b:Bool) (u:Up):List.Sublist ((optU b u).map Up.key) [u.key]:=by
 cases b with
 | false=>exact List.nil_sublist _
 | true=>exact List.Sublist.refl _
theorem yG (r:Rl) (us vs:List Up):xJ r (us++vs)=xJ (xJ r us) vs:=by unfold xJ;rw[List.foldl_append]
theorem sX {α:Type} (R:α→α→Prop) (tr:∀a b c,R a b→R b c→R a c) (z:α):∀l:List α,(∀j,0<j→j<l.length→R (l.getD (j-1) z) (l.getD j z))→l.Pairwise R
 | [],_=>List.Pairwise.nil
 | [a],_=>List.pairwise_singleton ..
 | a::b::l,h=>by
  have ih:=sX R tr z (b::l) fun j h0 hj=>by
   have:=h (j+1) (by omega) (by simp at hj ⊢;omega);obtain⟨i,rfl⟩:∃i,j=i+1:=⟨j-1,by omega⟩
   exact this
  have h1:R a b:=h 1 (by omega) (by simp);refine pN2.2 ⟨fun x hx=>?_,ih⟩;rcases jM2.1 hx with e | hx
  ·rw[e];exact h1
  ·exact tr a b x h1 ((pN2.1 ih).1 x hx)
theorem sL {l:List Int} {lo hi:Int} {z:Bool} (h:wi l lo hi z):jM l:=
 sX (fun a b:Int=>a<b) (fun _ _ _=>Int.lt_trans) 0 l fun j h0 hj=>(h.1 j hj).2 h0
theorem iW1 {l:List Dy} (h:dwi l):oP l:=
 sX dyLt (fun a b c h g=>by unfold dyLt at *;omega) ((0,0,()):Dy) l fun j h0 hj=>(h.1 j hj).2.2.2.2 h0
theorem oO1 (n:Int) (h0: -999999999≤n) (h1:n≤999999999):zE.f (mkS (Lib.itoa n))=some (n,true,()):=by
 have hl:=lR1 (n:=n) (by omega) (by omega);rcases nL (Lib.itoa n) (by omega)with⟨m,hm,e⟩ | ⟨hno,_⟩
 ·rw[e,oK hm ⟨rfl,h0,h1⟩]
 ·exact absurd ⟨rfl,h0,h1⟩ (hno n)
theorem oW1 (f:Int) (h0:1≤f) (h1:f≤7):Good ([70,82,69,81]++61::fw.getD (f-1).toNat []) (.fr f):=by
 refine⟨_,rfl,by show(61:UInt8)∉[70,82,69,81];decide,fun r=>?_⟩;show iA.f r (mkS [70,82,69,81]) _=_;have hp:posF 0 fw (fw.getD (f-1).toNat [])=f-1:=by
  have:f=1∨f=2∨f=3∨f=4∨f=5∨f=6∨f=7:=by omega
  rcases this with rfl | rfl | rfl | rfl | rfl | rfl | rfl <;> rfl
 rw[mM1,xK fw _ (by decide),hp];have hw:w6 (f-1+1)=f:=by rw[wr (by omega) (by omega)];omega
 show some (decide (w6 (f-1+1)>0),(Up.fr (w6 (f-1+1))).ap r,())=_;rw[hw,dp (show f>0 by omega)]
theorem nR1 (w:Int) (h0:0≤w) (h1:w≤6):Good ([87,75,83,84]++61::wd.getD w.toNat []) (.wk w):=by
 refine⟨_,rfl,by show(61:UInt8)∉[87,75,83,84];decide,fun r=>?_⟩;show iA.f r (mkS [87,75,83,84]) _=_;have hp:posF 0 wd (wd.getD w.toNat [])=w:=by
  have:w=0∨w=1∨w=2∨w=3∨w=4∨w=5∨w=6:=by omega
  rcases this with rfl | rfl | rfl | rfl | rfl | rfl | rfl <;> rfl
 rw[hO1,xK wd _ (by decide),hp];show some (decide (w≥0),(Up.wk w).ap r,())=_;rw[dp (show w≥0 from h0)]
theorem yF1 (n:Int) (h0:0≤n) (h1:n≤9999):Good ([73,78,84,69,82,86,65,76]++61::Lib.itoa n) (.iv n):=by refine⟨_,rfl,by show(61:UInt8)∉[73,78,84,69,82,86,65,76];decide,fun r=>?_⟩;show iA.f r (mkS [73,78,84,69,82,86,65,76]) _=_;rw[dU,oO1 n (by omega) (by omega)];rfl
theorem fP1 (n:Int) (h0:0≤n) (h1:n≤9999):Good ([67,79,85,78,84]++61::Lib.itoa n) (.ct n):=by refine⟨_,rfl,by show(61:UInt8)∉[67,79,85,78,84];decide,fun r=>?_⟩;show iA.f r (mkS [67,79,85,78,84]) _=_;rw[zG1,oO1 n (by omega) (by omega)];rfl
theorem dQ1 (t:Int) (s:List UInt8) (h:gB.f (mkS s)=some (t,0,())):Good ([85,78,84,73,76]++61::s) (.un t):=by refine⟨_,rfl,by show(61:UInt8)∉[85,78,84,73,76];decide,fun r=>?_⟩;show iA.f r (mkS [85,78,84,73,76]) _=_;rw[qH1,h];rfl
theorem eF1 :∀(l:List Int),small l→All2 isN (l.map Lib.itoa) l
 | [],_=>trivial
 | n::l,h=>⟨⟨rfl,by have:=h n (by simp);omega,by have:=h n (by simp);omega⟩,eF1 l fun x hx=>h x (lM2 _ hx)⟩
theorem jZ {α β:Type} {R:α→β→Prop} (hu:∀a b c,R a b→R a c→b=c):∀{a:List α} {b c:List β},All2 R a b→All2 R a c→b=c
 | [],[],[],_,_=>rfl
 | x::a,y::b,z::c,h,g=>by rw[hu x y z h.1 g.1,jZ hu h.2 g.2]
 | [],_::_,_,h,_=>h.elim
 | [],[],_::_,_,g=>g.elim
 | _::_,[],_,h,_=>h.elim
 | _::_,_::_,[],_,g=>g.elim
theorem xL (l:List Int) (hn:l≠[]) (hr:jM l) (hl:l.length≤60) (hs:small l):eC.f (mkS (jn 44 (l.map Lib.itoa)))=some (l,true,()):=by
 have hlen:=qI l hl hs
 have hsg:=vZ 44 (l.map Lib.itoa) (by simpa using hn) fun s h=>by obtain⟨n,_,e⟩:=yM2.1 h;rw[←e];exact dM (by decide) (by unfold dig;decide)
 rcases zI (jn 44 (l.map Lib.itoa)) (by omega)with⟨r,⟨⟨q1,_⟩,ns,q3,_,q5⟩,e,_⟩ | ⟨hno,_⟩
 ·rw[hsg]at q3;have:=jZ (R:=isN) (fun _ _ _=>oK) q3 (eF1 l hs);subst this;rw[e,mT q1 hr q5]
 ·exact absurd ⟨⟨hr,hl⟩,l,by rw[hsg];exact eF1 l hs,hl,fun _=>Iff.rfl⟩ (hno l)
theorem hG2 (d:Dy) (h: -53≤d.1∧d.1≤53∧0≤d.2.1∧d.2.1≤6):isDy (dt d) d:=by
 obtain⟨n,w,⟨⟩⟩:=d;dsimp only at h;have hw2:(wd.getD w.toNat []).length=2:=(show ∀s∈wd,s.length=2 by decide) _ (sC [] (by rw[wd7];omega));have hp:posF 0 wd (wd.getD w.toNat [])=w:=by
  have:w=0∨w=1∨w=2∨w=3∨w=4∨w=5∨w=6:=by omega
  rcases this with rfl | rfl | rfl | rfl | rfl | rfl | rfl <;> rfl
 obtain⟨a,ha⟩:∃a,a=(if n=0 then []else Lib.itoa n):=⟨_,rfl⟩
 have e:dt (n,w,())=a++wd.getD w.toNat []:=by unfold dt;rw[ha]
 have hl:(a++wd.getD w.toNat []).length-2=a.length:=by rw[cM2,hw2];omega
 show isD (dt (n,w,())) n w;rw[e];unfold isD;rw[hl,vN2,lO2,hp];refine⟨by rw[cM2];omega,rfl,h.2.2.1,?_⟩;by_cases c:n=0
 ·rw[if_pos c]at ha;exact .inl ⟨ha,c⟩
 ·rw[if_neg c]at ha;refine .inr ⟨?_,⟨ha,by omega,by omega⟩,c⟩;rw[ha];intro q;by_cases hn:n<0
  ·rw[lG hn]at q;cases q
  ·rw[mF hn]at q;exact D_ne _ q
theorem bE1 :∀(l:List Dy),rP l→All2 isDy (l.map dt) l
 | [],_=>trivial
 | n::l,h=>⟨hG2 n (h n (by simp)),bE1 l fun x hx=>h x (lM2 _ hx)⟩
theorem zG2 (c:UInt8) (h:∀s∈wd,c∉s) (i:Nat):c∉wd.getD i []:=by
 by_cases hi2:i<wd.length
 ·exact h _ (sC [] hi2)
 ·rw[kW hi2];simp
theorem kJ2 (c:UInt8) (h:∀s∈fw,c∉s) (i:Nat):c∉fw.getD i []:=by
 by_cases hi2:i<fw.length
 ·exact h _ (sC [] hi2)
 ·rw[kW hi2];simp
theorem wE2 (c:UInt8) (h1:c≠45) (h2:¬dig c) (h:∀s∈wd,c∉s) (d:Dy):c∉dt d:=by
 unfold dt;rw[pM2];rintro(q | q)
 ·split at q
  ·simp at q
  ·exact dM h1 h2 q
 ·exact zG2 c h _ q
theorem lY1 (l:List Dy) (hn:l≠[]) (hr:oP l) (hl:l.length≤60) (hs:rP l):aD.f (mkS (jn 44 (l.map dt)))=some (l,true,()):=by
 have hlen:=gZ l hl hs
 have hsg:=vZ 44 (l.map dt) (by simpa using hn) fun s h=>by obtain⟨n,_,e⟩:=yM2.1 h;rw[←e];exact wE2 44 (by decide) (by unfold dig;decide) (by decide) n
 have hu:∀(a:List UInt8) (b c:Dy),isDy a b→isDy a c→b=c:=fun a b c h g=>by obtain⟨e1,e2⟩:=gR h g;obtain⟨b1,b2,⟨⟩⟩:=b;obtain⟨c1,c2,⟨⟩⟩:=c;dsimp only at e1 e2;rw[e1,e2]
 rcases nU (jn 44 (l.map dt)) (by omega)with⟨r,⟨⟨q1,_⟩,ns,q3,_,q5⟩,e,_⟩ | ⟨hno,_⟩
 ·rw[hsg]at q3;have:=jZ (R:=isDy) hu q3 (bE1 l hs);subst this;rw[e,kQ q1 hr q5]
 ·exact absurd ⟨⟨hr,hl⟩,l,by rw[hsg];exact bE1 l hs,hl,fun _=>Iff.rfl⟩ (hno l)
theorem yQ1 (l:List Dy) (hn:l≠[]) (hr:oP l) (hl:l.length≤60) (hs:rP l):Good ([66,89,68,65,89]++61::jn 44 (l.map dt)) (.dy l):=by refine⟨_,rfl,by show(61:UInt8)∉[66,89,68,65,89];decide,fun r=>?_⟩;show iA.f r (mkS [66,89,68,65,89]) _=_;rw[kI1,lY1 l hn hr hl hs];rfl
theorem pH1 (l:List Int) (hn:l≠[]) (hr:jM l) (hl:l.length≤60) (hs:small l):Good ([66,89,77,79,78,84,72]++61::jn 44 (l.map Lib.itoa)) (.mo l):=by refine⟨_,rfl,by show(61:UInt8)∉[66,89,77,79,78,84,72];decide,fun r=>?_⟩;show iA.f r (mkS [66,89,77,79,78,84,72]) _=_;rw[tW,xL l hn hr hl hs];rfl
theorem hF1 (l:List Int) (hn:l≠[]) (hr:jM l) (hl:l.length≤60) (hs:small l):Good ([66,89,87,69,69,75,78,79]++61::jn 44 (l.map Lib.itoa)) (.we l):=by refine⟨_,rfl,by show(61:UInt8)∉[66,89,87,69,69,75,78,79];decide,fun r=>?_⟩;show iA.f r (mkS [66,89,87,69,69,75,78,79]) _=_;rw[iV,xL l hn hr hl hs];rfl
theorem eA1 (l:List Int) (hn:l≠[]) (hr:jM l) (hl:l.length≤60) (hs:small l):Good ([66,89,89,69,65,82,68,65,89]++61::jn 44 (l.map Lib.itoa)) (.yd l):=by refine⟨_,rfl,by show(61:UInt8)∉[66,89,89,69,65,82,68,65,89];decide,fun r=>?_⟩;show iA.f r (mkS [66,89,89,69,65,82,68,65,89]) _=_;rw[fR,xL l hn hr hl hs];rfl
theorem uW (l:List Int) (hn:l≠[]) (hr:jM l) (hl:l.length≤60) (hs:small l):Good ([66,89,77,79,78,84,72,68,65,89]++61::jn 44 (l.map Lib.itoa)) (.md l):=by refine⟨_,rfl,by show(61:UInt8)∉[66,89,77,79,78,84,72,68,65,89];decide,fun r=>?_⟩;show iA.f r (mkS [66,89,77,79,78,84,72,68,65,89]) _=_;rw[sP,xL l hn hr hl hs];rfl
theorem mJ1 (l:List Int) (hn:l≠[]) (hr:jM l) (hl:l.length≤60) (hs:small l):Good ([66,89,72,79,85,82]++61::jn 44 (l.map Lib.itoa)) (.ho l):=by refine⟨_,rfl,by show(61:UInt8)∉[66,89,72,79,85,82];decide,fun r=>?_⟩;show iA.f r (mkS [66,89,72,79,85,82]) _=_;rw[tA1,xL l hn hr hl hs];rfl
theorem vE1 (l:List Int) (hn:l≠[]) (hr:jM l) (hl:l.length≤60) (hs:small l):Good ([66,89,77,73,78,85,84,69]++61::jn 44 (l.map Lib.itoa)) (.mi l):=by refine⟨_,rfl,by show(61:UInt8)∉[66,89,77,73,78,85,84,69];decide,fun r=>?_⟩;show iA.f r (mkS [66,89,77,73,78,85,84,69]) _=_;rw[eV,xL l hn hr hl hs];rfl
theorem fE1 (l:List Int) (hn:l≠[]) (hr:jM l) (hl:l.length≤60) (hs:small l):Good ([66,89,83,69,67,79,78,68]++61::jn 44 (l.map Lib.itoa)) (.se l):=by refine⟨_,rfl,by show(61:UInt8)∉[66,89,83,69,67,79,78,68];decide,fun r=>?_⟩;show iA.f r (mkS [66,89,83,69,67,79,78,68]) _=_;rw[xU,xL l hn hr hl hs];rfl
theorem zC1 (l:List Int) (hn:l≠[]) (hr:jM l) (hl:l.length≤60) (hs:small l):Good ([66,89,83,69,84,80,79,83]++61::jn 44 (l.map Lib.itoa)) (.po l):=by refine⟨_,rfl,by show(61:UInt8)∉[66,89,83,69,84,80,79,83];decide,fun r=>?_⟩;show iA.f r (mkS [66,89,83,69,84,80,79,83]) _=_;rw[yU,xL l hn hr hl hs];rfl
section
variable (f iv ct un wk : Int) (en : Bool) (mo we yd md : List Int) (dy : List Dy) (ho mi se po : List Int)
theorem mQ1 (hp:mayP f iv ct un wk en mo we yd md dy ho mi se po):All2 Good (qQ f iv ct un wk en mo we yd md dy ho mi se po) (ups f iv ct un wk en mo we yd md dy ho mi se po):=by obtain⟨b1,b2,b3,bmo,bwe,byd,bmd,bdy,bho,bmi,bse,bpo⟩:=nC1 f iv ct un wk en mo we yd md dy ho mi se po hp;obtain⟨u1,u2,u3⟩:=rJ un b3;unfold qQ ups rest;refine⟨oW1 f (by omega) (by omega),?_⟩;refine All2.append (rH _ _ _ _ fun hb=>yF1 iv (by omega) (by omega)) ?_;refine All2.append (rH _ _ _ _ fun hb=>fP1 ct (by omega) (by omega)) ?_;refine All2.append (rH _ _ _ _ fun hb=>dQ1 un _ u3) ?_;refine All2.append (rH _ _ _ _ fun hb=>pH1 mo (by intro q;rw[q]at hb;exact absurd hb (by decide)) (sL hp.2.1.1) bmo.1 bmo.2) ?_;refine All2.append (rH _ _ _ _ fun hb=>hF1 we (by intro q;rw[q]at hb;exact absurd hb (by decide)) (sL hp.2.1.2.1) bwe.1 bwe.2) ?_;refine All2.append (rH _ _ _ _ fun hb=>eA1 yd (by intro q;rw[q]at hb;exact absurd hb (by decide)) (sL hp.2.1.2.2.1) byd.1 byd.2) ?_;refine All2.append (rH _ _ _ _ fun hb=>uW md (by intro q;rw[q]at hb;exact absurd hb (by decide)) (sL hp.2.1.2.2.2.1) bmd.1 bmd.2) ?_;refine All2.append (rH _ _ _ _ fun hb=>yQ1 dy (by intro q;rw[q]at hb;exact absurd hb (by decide)) (iW1 hp.2.1.2.2.2.2.2.2.2.2.1) bdy.1 bdy.2) ?_;refine All2.append (rH _ _ _ _ fun hb=>mJ1 ho (by intro q;rw[q]at hb;exact absurd hb (by decide)) (sL hp.2.1.2.2.2.2.1) bho.1 bho.2) ?_;refine All2.append (rH _ _ _ _ fun hb=>vE1 mi (by intro q;rw[q]at hb;exact absurd hb (by decide)) (sL hp.2.1.2.2.2.2.2.1) bmi.1 bmi.2) ?_;refine All2.append (rH _ _ _ _ fun hb=>fE1 se (by intro q;rw[q]at hb;exact absurd hb (by decide)) (sL hp.2.1.2.2.2.2.2.2.1) bse.1 bse.2) ?_;refine All2.append (rH _ _ _ _ fun hb=>zC1 po (by intro q;rw[q]at hb;exact absurd hb (by decide)) (sL hp.2.1.2.2.2.2.2.2.2.1) bpo.1 bpo.2) ?_;exact rH _ _ _ _ fun hb=>nR1 wk (by omega) (by omega)
theorem dA2 :(keys (ups f iv ct un wk en mo we yd md dy ho mi se po)).Nodup∧FREQ∈keys (ups f iv ct un wk en mo we yd md dy ho mi se po):=by
 constructor
 ·have h:(keys (ups f iv ct un wk en mo we yd md dy ho mi se po)).Sublist ([70,82,69,81]::([[73,78,84,69,82,86,65,76]]++([[67,79,85,78,84]]++([[85,78,84,73,76]]++([[66,89,77,79,78,84,72]]++([[66,89,87,69,69,75,78,79]]++([[66,89,89,69,65,82,68,65,89]]++([[66,89,77,79,78,84,72,68,65,89]]++([[66,89,68,65,89]]++([[66,89,72,79,85,82]]++([[66,89,77,73,78,85,84,69]]++([[66,89,83,69,67,79,78,68]]++([[66,89,83,69,84,80,79,83]]++([[87,75,83,84]])))))))))))))):=by unfold ups;refine List.Sublist.cons_cons _ ?_;simp only[keys,uM2];refine List.Sublist.append (vH _ _) ?_;refine List.Sublist.append (vH _ _) ?_;refine List.Sublist.append (vH _ _) ?_;refine List.Sublist.append (vH _ _) ?_;refine List.Sublist.append (vH _ _) ?_;refine List.Sublist.append (vH _ _) ?_;refine List.Sublist.append (vH _ _) ?_;refine List.Sublist.append (vH _ _) ?_;refine List.Sublist.append (vH _ _) ?_;refine List.Sublist.append (vH _ _) ?_;refine List.Sublist.append (vH _ _) ?_;refine List.Sublist.append (vH _ _) ?_;exact vH _ _
  exact List.Pairwise.sublist h (by decide)
 ·exact mM2 ..
theorem mI2 (hp:mayP f iv ct un wk en mo we yd md dy ho mi se po):xJ (0,1,0,0,0,false,[],[],[],[],[],[],[],[],[],()) (ups f iv ct un wk en mo we yd md dy ho mi se po)=(f,iv,ct,un,wk,en,mo,we,yd,md,dy,ho,mi,se,po,()):=by
 have hun:en=false→un=0:=fun h=>hp.1.2.2 h
 unfold ups;show xJ (f,1,0,0,0,false,[],[],[],[],[],[],[],[],[],()) _=_;have a0:xJ (f,1,0,0,0,false,[],[],[],[],[],[],[],[],[],()) (optU (!decide (iv=1)) (.iv iv))=(f,iv,0,0,0,false,[],[],[],[],[],[],[],[],[],()):=by
   by_cases h:iv=1
   ·subst h;rfl
   ·simp only[dn h,optU,gO2,cond_true];rfl
 rw[yG,a0];have a1:xJ (f,iv,0,0,0,false,[],[],[],[],[],[],[],[],[],()) (optU (!decide (ct=0)) (.ct ct))=(f,iv,ct,0,0,false,[],[],[],[],[],[],[],[],[],()):=by
   by_cases h:ct=0
   ·subst h;rfl
   ·simp only[dn h,optU,gO2,cond_true];rfl
 rw[yG,a1];have a2:xJ (f,iv,ct,0,0,false,[],[],[],[],[],[],[],[],[],()) (optU (en) (.un un))=(f,iv,ct,un,0,en,[],[],[],[],[],[],[],[],[],()):=by
   cases en with
   | false=>rw[hun rfl];rfl
   | true=>rfl
 rw[yG,a2];have a3:xJ (f,iv,ct,un,0,en,[],[],[],[],[],[],[],[],[],()) (optU (decide ((mo.length:Int)>0)) (.mo mo))=(f,iv,ct,un,0,en,mo,[],[],[],[],[],[],[],[],()):=by
   cases mo with
   | nil=>rfl
   | cons a l=>
    have h:(((a::l).length:Nat):Int)>0:=by rw[kM2];omega
    simp only[dp h,optU,cond_true];rfl
 rw[yG,a3];have a4:xJ (f,iv,ct,un,0,en,mo,[],[],[],[],[],[],[],[],()) (optU (decide ((we.length:Int)>0)) (.we we))=(f,iv,ct,un,0,en,mo,we,[],[],[],[],[],[],[],()):=by
   cases we with
   | nil=>rfl
   | cons a l=>
    have h:(((a::l).length:Nat):Int)>0:=by rw[kM2];omega
    simp only[dp h,optU,cond_true];rfl
 rw[yG,a4];have a5:xJ (f,iv,ct,un,0,en,mo,we,[],[],[],[],[],[],[],()) (optU (decide ((yd.length:Int)>0)) (.yd yd))=(f,iv,ct,un,0,en,mo,we,yd,[],[],[],[],[],[],()):=by
   cases yd with
   | nil=>rfl
   | cons a l=>
    have h:(((a::l).length:Nat):Int)>0:=by rw[kM2];omega
    simp only[dp h,optU,cond_true];rfl
 rw[yG,a5];have a6:xJ (f,iv,ct,un,0,en,mo,we,yd,[],[],[],[],[],[],()) (optU (decide ((md.length:Int)>0)) (.md md))=(f,iv,ct,un,0,en,mo,we,yd,md,[],[],[],[],[],()):=by
   cases md with
   | nil=>rfl
   | cons a l=>
    have h:(((a::l).length:Nat):Int)>0:=by rw[kM2];omega
    simp only[dp h,optU,cond_true];rfl
 rw[yG,a6];have a7:xJ (f,iv,ct,un,0,en,mo,we,yd,md,[],[],[],[],[],()) (optU (decide ((dy.length:Int)>0)) (.dy dy))=(f,iv,ct,un,0,en,mo,we,yd,md,dy,[],[],[],[],()):=by
   cases dy with
   | nil=>rfl
   | cons a l=>
    have h:(((a::l).length:Nat):Int)>0:=by rw[kM2];omega
    simp only[dp h,optU,cond_true];rfl
 rw[yG,a7];have a8:xJ (f,iv,ct,un,0,en,mo,we,yd,md,dy,[],[],[],[],()) (optU (decide ((ho.length:Int)>0)) (.ho ho))=(f,iv,ct,un,0,en,mo,we,yd,md,dy,ho,[],[],[],()):=by
   cases ho with
   | nil=>rfl
   | cons a l=>
    have h:(((a::l).length:Nat):Int)>0:=by rw[kM2];omega
    simp only[dp h,optU,cond_true];rfl
 rw[yG,a8];have a9:xJ (f,iv,ct,un,0,en,mo,we,yd,md,dy,ho,[],[],[],()) (optU (decide ((mi.length:Int)>0)) (.mi mi))=(f,iv,ct,un,0,en,mo,we,yd,md,dy,ho,mi,[],[],()):=by
   cases mi with
   | nil=>rfl
   | cons a l=>
    have h:(((a::l).length:Nat):Int)>0:=by rw[kM2];omega
    simp only[dp h,optU,cond_true];rfl
 rw[yG,a9];have a10:xJ (f,iv,ct,un,0,en,mo,we,yd,md,dy,ho,mi,[],[],()) (optU (decide ((se.length:Int)>0)) (.se se))=(f,iv,ct,un,0,en,mo,we,yd,md,dy,ho,mi,se,[],()):=by
   cases se with
   | nil=>rfl
   | cons a l=>
    have h:(((a::l).length:Nat):Int)>0:=by rw[kM2];omega
    simp only[dp h,optU,cond_true];rfl
 rw[yG,a10];have a11:xJ (f,iv,ct,un,0,en,mo,we,yd,md,dy,ho,mi,se,[],()) (optU (decide ((po.length:Int)>0)) (.po po))=(f,iv,ct,un,0,en,mo,we,yd,md,dy,ho,mi,se,po,()):=by
   cases po with
   | nil=>rfl
   | cons a l=>
    have h:(((a::l).length:Nat):Int)>0:=by rw[kM2];omega
    simp only[dp h,optU,cond_true];rfl
 rw[yG,a11];have a12:xJ (f,iv,ct,un,0,en,mo,we,yd,md,dy,ho,mi,se,po,()) (optU (!decide (wk=0)) (.wk wk))=(f,iv,ct,un,wk,en,mo,we,yd,md,dy,ho,mi,se,po,()):=by
   by_cases h:wk=0
   ·subst h;rfl
   ·simp only[dn h,optU,gO2,cond_true];rfl
 exact a12
end
theorem xM {b:Bool} {name v:List UInt8} (hn:(59:UInt8)∉name) (hv:b=true→(59:UInt8)∉v):∀s∈opt b name v,(59:UInt8)∉s:=by
 cases b with
 | false=>intro s h;cases h
 | true=>
  intro s h;have h:s=name++61::v:=kN2.1 h;rw[h,pM2,jM2];rintro(q | q | q)
  ·exact hn q
  ·exact absurd q (by decide)
  ·exact hv rfl q
theorem nU1 {c d:UInt8} (hcd:c≠d):∀l:List (List UInt8),(∀s∈l,c∉s)→c∉jn d l
 | [],_=>by simp[jn]
 | [a],h=>h a (by simp)
 | a::b::l,h=>by
  show c∉a++d::jn d (b::l);rw[pM2,jM2];rintro(q | q | q)
  ·exact h a (by simp) q
  ·exact hcd q
  ·exact nU1 hcd (b::l) (fun s hs=>h s (lM2 _ hs)) q
theorem fU (l:List Int):(59:UInt8)∉jn 44 (l.map Lib.itoa):=nU1 (by decide) _ fun s h=>by obtain⟨n,_,e⟩:=yM2.1 h;rw[←e];exact dM (by decide) (by unfold dig;decide)
theorem yH2 (l:List Dy):(59:UInt8)∉jn 44 (l.map dt):=nU1 (by decide) _ fun s h=>by obtain⟨n,_,e⟩:=yM2.1 h;rw[←e];exact wE2 59 (by decide) (by unfold dig;decide) (by decide) n
theorem fS1 :∀(l:List (List UInt8)),∀s∈l,s.length≤tot l
 | a::l,s,h=>by
  rcases jM2.1 h with e | h
  ·rw[e];simp[tot]
  ·have:=fS1 l s h;simp only[tot];omega
section
variable (f iv ct un wk : Int) (en : Bool) (mo we yd md : List Int) (dy : List Dy) (ho mi se po : List Int)
theorem zY1 (hp:mayP f iv ct un wk en mo we yd md dy ho mi se po):∀s∈qQ f iv ct un wk en mo we yd md dy ho mi se po,(59:UInt8)∉s:=by
 obtain⟨b1,b2,b3,_⟩:=nC1 f iv ct un wk en mo we yd md dy ho mi se po hp
 have hu:(59:UInt8)∉utx un:=fun q=>by
  rcases(pO un b3).2.1 _ q with e | e
  ·exact absurd e (by decide)
  ·exact absurd e (by unfold dig;decide)
 have hi1:(59:UInt8)∉Lib.itoa iv:=dM (by decide) (by unfold dig;decide);have hi2:(59:UInt8)∉Lib.itoa ct:=dM (by decide) (by unfold dig;decide);have hw:=zG2 59 (by decide) wk.toNat;have hf:=kJ2 59 (by decide) (f-1).toNat;intro s hs;unfold qQ rest at hs;rcases jM2.1 hs with e | hs
 ·rw[e];intro q;rcases pM2.1 q with q | q
  ·exact absurd q (by decide)
  rcases jM2.1 q with q | q
  ·exact absurd q (by decide)
  ·exact hf q
 ·rcases pM2.1 hs with hs | hs
  ·exact xM (by decide) (fun _=>hi1) s hs
  rcases pM2.1 hs with hs | hs
  ·exact xM (by decide) (fun _=>hi2) s hs
  rcases pM2.1 hs with hs | hs
  ·exact xM (by decide) (fun _=>hu) s hs
  rcases pM2.1 hs with hs | hs
  ·exact xM (by decide) (fun _=>fU _) s hs
  rcases pM2.1 hs with hs | hs
  ·exact xM (by decide) (fun _=>fU _) s hs
  rcases pM2.1 hs with hs | hs
  ·exact xM (by decide) (fun _=>fU _) s hs
  rcases pM2.1 hs with hs | hs
  ·exact xM (by decide) (fun _=>fU _) s hs
  rcases pM2.1 hs with hs | hs
  ·exact xM (by decide) (fun _=>yH2 _) s hs
  rcases pM2.1 hs with hs | hs
  ·exact xM (by decide) (fun _=>fU _) s hs
  rcases pM2.1 hs with hs | hs
  ·exact xM (by decide) (fun _=>fU _) s hs
  rcases pM2.1 hs with hs | hs
  ·exact xM (by decide) (fun _=>fU _) s hs
  rcases pM2.1 hs with hs | hs
  ·exact xM (by decide) (fun _=>fU _) s hs
  ·exact xM (by decide) (fun _=>hw) s hs
end
theorem mW {r:Rl} (hs:kT r.2.2.2.2.2.2.1 r.2.2.2.2.2.2.2.1 r.2.2.2.2.2.2.2.2.1 r.2.2.2.2.2.2.2.2.2.1 r.2.2.2.2.2.2.2.2.2.2.1 r.2.2.2.2.2.2.2.2.2.2.2.1 r.2.2.2.2.2.2.2.2.2.2.2.2.1 r.2.2.2.2.2.2.2.2.2.2.2.2.2.1 r.2.2.2.2.2.2.2.2.2.2.2.2.2.2.1) (hM:xA.f r=some (true,())):mayP r.1 r.2.1 r.2.2.1 r.2.2.2.1 r.2.2.2.2.1 r.2.2.2.2.2.1 r.2.2.2.2.2.2.1 r.2.2.2.2.2.2.2.1 r.2.2.2.2.2.2.2.2.1 r.2.2.2.2.2.2.2.2.2.1 r.2.2.2.2.2.2.2.2.2.2.1 r.2.2.2.2.2.2.2.2.2.2.2.1 r.2.2.2.2.2.2.2.2.2.2.2.2.1 r.2.2.2.2.2.2.2.2.2.2.2.2.2.1 r.2.2.2.2.2.2.2.2.2.2.2.2.2.2.1:=by
 have g:=uC1 r.1 r.2.1 r.2.2.1 r.2.2.2.1 r.2.2.2.2.1 r.2.2.2.2.2.1 r.2.2.2.2.2.2.1 r.2.2.2.2.2.2.2.1 r.2.2.2.2.2.2.2.2.1 r.2.2.2.2.2.2.2.2.2.1 r.2.2.2.2.2.2.2.2.2.2.1 r.2.2.2.2.2.2.2.2.2.2.2.1 r.2.2.2.2.2.2.2.2.2.2.2.2.1 r.2.2.2.2.2.2.2.2.2.2.2.2.2.1 r.2.2.2.2.2.2.2.2.2.2.2.2.2.2.1 hs;refine Classical.byContradiction fun q=>?_
 have h1:xA.f r=some (false,()):=g.2 q;rw[hM]at h1;cases h1
noncomputable def pts (r:Rl):List (List UInt8):=qQ r.1 r.2.1 r.2.2.1 r.2.2.2.1 r.2.2.2.2.1 r.2.2.2.2.2.1 r.2.2.2.2.2.2.1 r.2.2.2.2.2.2.2.1 r.2.2.2.2.2.2.2.2.1 r.2.2.2.2.2.2.2.2.2.1 r.2.2.2.2.2.2.2.2.2.2.1 r.2.2.2.2.2.2.2.2.2.2.2.1 r.2.2.2.2.2.2.2.2.2.2.2.2.1 r.2.2.2.2.2.2.2.2.2.2.2.2.2.1 r.2.2.2.2.2.2.2.2.2.2.2.2.2.2.1
def cL (r:Rl):Prop:=kT r.2.2.2.2.2.2.1 r.2.2.2.2.2.2.2.1 r.2.2.2.2.2.2.2.2.1 r.2.2.2.2.2.2.2.2.2.1 r.2.2.2.2.2.2.2.2.2.2.1 r.2.2.2.2.2.2.2.2.2.2.2.1 r.2.2.2.2.2.2.2.2.2.2.2.2.1 r.2.2.2.2.2.2.2.2.2.2.2.2.2.1 r.2.2.2.2.2.2.2.2.2.2.2.2.2.2.1
theorem iG1 (r:Rl) (hs:cL r) (hM:xA.f r=some (true,())):kJ.f r=some (mkS (jn 59 (pts r)),0,())∧(jn 59 (pts r)).length≤4096:=by have hp:=mW hs hM;obtain⟨f,iv,ct,un,wk,en,mo,we,yd,md,dy,ho,mi,se,po,⟨⟩⟩:=r;dsimp only at hp;exact pB1 f iv ct un wk en mo we yd md dy ho mi se po hM hp
theorem fO1 (r:Rl) (hs:cL r) (hM:xA.f r=some (true,())):
  kJ.f r=some (mkS (jn 59 (pts r)),0,())∧(jn 59 (pts r)).length≤4096∧pts r≠[]∧(∀s∈pts r,(59:UInt8)∉s)∧sh60 r ∧
   ∃us,All2 Good (pts r) us∧(keys us).Nodup∧FREQ∈keys us∧xJ (0,1,0,0,0,false,[],[],[],[],[],[],[],[],[],()) us=r:=by
 have hp:=mW hs hM;obtain⟨f,iv,ct,un,wk,en,mo,we,yd,md,dy,ho,mi,se,po,⟨⟩⟩:=r;dsimp only at hp;obtain⟨h1,h2⟩:=pB1 f iv ct un wk en mo we yd md dy ho mi se po hM hp;have hk:=dA2 f iv ct un wk en mo we yd md dy ho mi se po;obtain⟨_,_,_,b4,b5,b6,b7,b8,b9,b10,b11,b12⟩:=nC1 f iv ct un wk en mo we yd md dy ho mi se po hp
 exact⟨h1,h2,by unfold pts qQ;simp,zY1 f iv ct un wk en mo we yd md dy ho mi se po hp,⟨b4.1,b5.1,b6.1,b7.1,b8.1,b9.1,b10.1,b11.1,b12.1⟩,
  ups f iv ct un wk en mo we yd md dy ho mi se po,mQ1 f iv ct un wk en mo we yd md dy ho mi se po hp,hk.1,hk.2,mI2 f iv ct un wk en mo we yd md dy ho mi se po hp⟩
theorem eQ1 (r:Rl) (hs:cL r) (hM:xA.f r=some (true,())):zA.f (mkS (jn 59 (pts r)))=some (r,0,0,()):=by obtain⟨_,h2,h3,h4,_,us,h5,h6,h7,h8⟩:=fO1 r hs hM;have hl:=uR1 59 (pts r) h3;have hp:0<(pts r).length:=hO2.2 h3;rw[mN1 _ h2,vZ 59 _ h3 h4];have:=(nG1 (pts r) (by omega) (fun s hs=>by have:=fS1 _ s hs;omega) _ 0 (0,1,0,0,0,false,[],[],[],[],[],[],[],[],[],()) [] rfl (iM2 _) (oM2 _)).1 us (by rw[bN2];exact h5) (fun u _=>by simp) h6;rw[this,h8];unfold fin;rw[if_pos (by rw[lN2];exact h7),hM];rfl
theorem eqI2 (a b:List Int) (ha:a.length≤1000000):tA.f a b=some (decide (a=b),()):=by
 rw[tA.f_eq];by_cases hl:a.length=b.length
 ·have key:∀(k i:Nat),a.length-i=k→i≤a.length→tA.l1 a b a.length i=some (decide (a.drop i=b.drop i),()):=by
   intro k
   induction k with
   | zero=>
    intro i hk hia;have e1:a.drop i=[]:=yO2 (by omega);have e2:b.drop i=[]:=yO2 (by omega);rw[tA.l1_eq,e1,e2];simp(disch:=omega)only[ss]
   | succ k ih=>
    intro i hk hia;have h1:i<a.length:=by omega
    have h2:i<b.length:=by omega
    have:=ih (i+1) (by omega) (by omega);rw[tA.l1_eq,nC 0 h1,nC 0 h2];by_cases c:a.getD i 0=b.getD i 0
    ·have e:decide (a.getD i 0::a.drop (i+1)=b.getD i 0::b.drop (i+1))=decide (a.drop (i+1)=b.drop (i+1)):=decide_eq_decide.2 ⟨fun h=>(uO2 h).2,fun h=>by rw[c,h]⟩;rw[e];simp(disch:=omega)only[ss];exact this
    ·have e:decide (a.getD i 0::a.drop (i+1)=b.getD i 0::b.drop (i+1))=false:=dn fun h=>c (uO2 h).1
     rw[e];simp(disch:=omega)only[ss]
  have:=key _ 0 rfl (iM2 _);rw[tM2,bN2,bN2]at this;simp(disch:=omega)only[ss,this]
 ·rw[dn (show ¬a=b from fun h=>hl (by rw[h]))];simp(disch:=omega)only[ss]
theorem eqD2 (a b:List Dy) (ha:a.length≤1000000):uA.f a b=some (decide (a=b),()):=by
 rw[uA.f_eq];by_cases hl:a.length=b.length
 ·have key:∀(k i:Nat),a.length-i=k→i≤a.length→uA.l1 a b a.length i=some (decide (a.drop i=b.drop i),()):=by
   intro k
   induction k with
   | zero=>
    intro i hk hia;have e1:a.drop i=[]:=yO2 (by omega);have e2:b.drop i=[]:=yO2 (by omega);rw[uA.l1_eq,e1,e2];simp(disch:=omega)only[ss]
   | succ k ih=>
    intro i hk hia;have h1:i<a.length:=by omega
    have h2:i<b.length:=by omega
    have:=ih (i+1) (by omega) (by omega);rw[uA.l1_eq,nC ((0,0,()):Dy) h1,nC ((0,0,()):Dy) h2];generalize hx:a.getD i ((0,0,()):Dy)=x;generalize hy:b.getD i ((0,0,()):Dy)=y;have hx':a.getD i ((0,0,()):Int×Int×Unit)=x:=hx;have hy':b.getD i ((0,0,()):Int×Int×Unit)=y:=hy;obtain⟨x1,x2,⟨⟩⟩:=x;obtain⟨y1,y2,⟨⟩⟩:=y;by_cases c:x1=y1∧x2=y2
    ·obtain⟨rfl,rfl⟩:=c;have e:decide ((x1,x2,())::a.drop (i+1)=(x1,x2,())::b.drop (i+1))=decide (a.drop (i+1)=b.drop (i+1)):=decide_eq_decide.2 ⟨fun h=>(uO2 h).2,fun h=>by rw[h]⟩;rw[e];simp(disch:=omega)only[ss,hx',hy'];exact this
    ·have e:decide ((x1,x2,())::a.drop (i+1)=(y1,y2,())::b.drop (i+1))=false:=dn fun h=>c (by have:=(uO2 h).1;cases this;exact⟨rfl,rfl⟩)
     rw[e];have e2:(decide (x1=y1)&&decide (x2=y2))=false:=by
      by_cases c1:x1=y1
      ·rw[dn (show ¬x2=y2 from fun h=>c ⟨c1,h⟩),Bool.and_false]
      ·rw[dn c1,Bool.false_and]
     simp(disch:=omega)only[ss,hx',hy',e2]
  have:=key _ 0 rfl (iM2 _);rw[tM2,bN2,bN2]at this;simp(disch:=omega)only[ss,this]
 ·rw[dn (show ¬a=b from fun h=>hl (by rw[h]))];simp(disch:=omega)only[ss]
theorem bB1 (r q:Rl) (hr:cL r):xE (eE.f r q) (r=q):=by
 unfold cL kT at hr;obtain⟨f,iv,ct,un,wk,en,mo,we,yd,md,dy,ho,mi,se,po,⟨⟩⟩:=r;obtain⟨f',iv',ct',un',wk',en',mo',we',yd',md',dy',ho',mi',se',po',⟨⟩⟩:=q;dsimp only at hr;obtain⟨h1,h2,h3,h4,h5,h6,h7,h8,h9⟩:=hr;have no:∀{p:Prop},¬p→xE (some (false,())) p:=fun h=>⟨false,rfl,by simp[h]⟩
 rw[eE.f_eq];by_cases c:f=f'
 ·by_cases c1:iv=iv'
  ·by_cases c2:ct=ct'
   ·by_cases c3:un=un'
    ·by_cases c4:wk=wk'
     ·by_cases c5:en=en'
      ·subst c c1 c2 c3 c4 c5;simp(disch:=omega)only[ss,beq_self_eq_true];rw[eE.l1_eq,cond_false,eqI2 mo mo' (by omega),eqI2 we we' (by omega),eqI2 yd yd' (by omega),eqI2 md md' (by omega),eqD2 dy dy' (by omega),eqI2 ho ho' (by omega),eqI2 mi mi' (by omega),eqI2 se se' (by omega),eqI2 po po' (by omega)];simp only[eM2];by_cases d1:mo=mo'
       ·by_cases d2:we=we'
        ·by_cases d3:yd=yd'
         ·by_cases d4:md=md'
          ·by_cases d5:dy=dy'
           ·by_cases d6:ho=ho'
            ·by_cases d7:mi=mi'
             ·by_cases d8:se=se'
              ·subst d1 d2 d3 d4 d5 d6 d7 d8;simp only[decide_true,cond_true];refine⟨_,rfl,?_⟩;rw[decide_eq_true_iff];exact⟨fun h=>by rw[h],fun h=>by cases h;rfl⟩
              ·simp only[dp d1,dp d2,dp d3,dp d4,dp d5,dp d6,dp d7,dn d8,cond_true,cond_false];exact no fun h=>d8 (by cases h;rfl)
             ·simp only[dp d1,dp d2,dp d3,dp d4,dp d5,dp d6,dn d7,cond_true,cond_false];exact no fun h=>d7 (by cases h;rfl)
            ·simp only[dp d1,dp d2,dp d3,dp d4,dp d5,dn d6,cond_true,cond_false];exact no fun h=>d6 (by cases h;rfl)
           ·simp only[dp d1,dp d2,dp d3,dp d4,dn d5,cond_true,cond_false];exact no fun h=>d5 (by cases h;rfl)
          ·simp only[dp d1,dp d2,dp d3,dn d4,cond_true,cond_false];exact no fun h=>d4 (by cases h;rfl)
         ·simp only[dp d1,dp d2,dn d3,cond_true,cond_false];exact no fun h=>d3 (by cases h;rfl)
        ·simp only[dp d1,dn d2,cond_true,cond_false];exact no fun h=>d2 (by cases h;rfl)
       ·simp only[dn d1,cond_false];exact no fun h=>d1 (by cases h;rfl)
      ·have e:(en==en')=false:=by cases en <;> cases en' <;> first | rfl | exact absurd rfl c5
       simp(disch:=omega)only[ss,e,eE.l1_eq];exact no fun h=>c5 (by cases h;rfl)
     ·simp(disch:=omega)only[ss,eE.l1_eq];exact no fun h=>c4 (by cases h;rfl)
    ·simp(disch:=omega)only[ss,eE.l1_eq];exact no fun h=>c3 (by cases h;rfl)
   ·simp(disch:=omega)only[ss,eE.l1_eq];exact no fun h=>c2 (by cases h;rfl)
  ·simp(disch:=omega)only[ss,eE.l1_eq];exact no fun h=>c1 (by cases h;rfl)
 ·simp(disch:=omega)only[ss,eE.l1_eq];exact no fun h=>c (by cases h;rfl)
theorem aM {p:Prop} [Decidable p] {X:Option (Bool×Unit)} {Q:Prop} (h:p → ∃b,X=some (b,())∧(b=true→Q)):∃b,(bif decide p then X else some (false,()))=some (b,())∧(b=true→Q):=by
 by_cases c:p
 ·rw[dp c];exact h c
 ·rw[dn c];exact⟨false,rfl,fun q=>by cases q⟩
theorem aB2 (r:Rl):∃b,bI.f r=some (b,())∧(b=true→cL r):=by
 rw[bI.f_eq];refine aM fun h1=>aM fun h2=>aM fun h3=>aM fun h4=>aM fun h5=>aM fun h6=>aM fun h7=>aM fun h8=>⟨_,rfl,fun h9=>?_⟩
 rw[decide_eq_true_iff]at h9;unfold cL kT;omega
theorem mE2 {r:Rl} (h:sh60 r):cL r:=vF1 h
theorem jJ1 (s:List UInt8) (hs:s.length≤5000):
  (∃R:Rl,zA.f (mkS s)=some (R,0,0,())∧sh60 R∧xA.f R=some (true,()))∨(∃(n:Nat) (e:Int),zA.f (mkS s)=some (zR,(n:Int),e,())∧e≠0):=by
 obtain⟨R,n,e,h1,_,hR⟩:=gC1 s (by omega);by_cases c:s.length≤4096
 ·have p1:=mN1 s c;have hsl:=cN 59 s;obtain⟨a1,a2⟩:=nG1 (segs 59 s) (by omega) (fun t ht=>by have:=hsl.2 t ht;omega) _ 0 (0,1,0,0,0,false,[],[],[],[],[],[],[],[],[],()) [] rfl (iM2 _) (oM2 _);by_cases g:∃us,All2 Good ((segs 59 s).drop 0) us∧(∀u∈us,u.key∉([]:List (List UInt8)))∧(keys us).Nodup
  ·obtain⟨us,g1,g2,g3⟩:=g;have x1:=a1 us g1 g2 g3;rw[p1,x1]at h1;unfold fin at x1 h1;by_cases hF:FREQ∈[]++keys us
   ·rw[if_pos hF]at x1 h1;cases hM:xA.f (xJ (0,1,0,0,0,false,[],[],[],[],[],[],[],[],[],()) us)with
    | none=>rw[hM]at h1;cases h1
    | some b=>
     obtain⟨b,⟨⟩⟩:=b;rw[hM]at x1 h1
     cases b with
     | true=>
      have h1:some (xJ (0,1,0,0,0,false,[],[],[],[],[],[],[],[],[],()) us,(0:Int),(0:Int),())=some (R,n,e,()):=h1;have e1:xJ (0,1,0,0,0,false,[],[],[],[],[],[],[],[],[],()) us=R:=(Prod.mk.inj (iN2 h1)).1;exact .inl ⟨_,p1.trans x1,e1 ▸ hR,hM⟩
     | false=>exact .inr ⟨0,1,p1.trans x1,by decide⟩
   ·rw[if_neg hF]at x1;exact .inr ⟨0,7,p1.trans x1,by decide⟩
  ·obtain⟨n1,x1⟩:=a2 g;exact .inr ⟨n1,4,p1.trans x1,by decide⟩
 ·refine .inr ⟨0,3,?_,by decide⟩;rw[zA.f_eq];simp(disch:=omega)only[ss,szS];rfl
end Go.GV.YtidgapgbnlcjgaaGreatDoor
