/-
Part of the words that MeetSpans is proved with: no statement of its own, no conditions.
-/
import Derived.WalkKit
import Derived.Laws.AppendOwn
set_option linter.unusedVariables false
set_option linter.unusedSimpArgs false
namespace Go.GV
abbrev hE2 :=@Option.bind_some
abbrev iE2 :=@Bool.and_eq_true
abbrev jE2 :=@List.length_append
abbrev kE2 :=@Nat.zero_le
abbrev lE2 :=@Bool.not_true
abbrev mE2 :=@List.mem_cons_of_mem
abbrev nE2 :=@List.mem_cons_self
abbrev oE2 :=@List.getD_eq_getElem?_getD
abbrev pE2 :=@List.mem_cons
abbrev qE2 :=@Int.natCast_zero
abbrev rE2 :=@Nat.le_refl
abbrev sE2 :=@List.getElem?_eq_getElem
abbrev tE2 :=@List.mem_append_right
abbrev uE2 :=@List.append_assoc
abbrev vE2 :=@List.length_singleton
abbrev wE2 :=@Array.length_toList
abbrev xE2 :=@List.mem_append
abbrev yE2 :=@List.drop_zero
abbrev zE2 :=@List.append_nil
abbrev aF2 :=@List.eq_nil_of_length_eq_zero
abbrev bF2 :=@List.mem_append_left
abbrev cF2 :=@List.take_of_length_le
abbrev dF2 :=@List.nil_append
abbrev eF2 :=@Bool.not_false
abbrev fF2 :=@List.length_take
abbrev gF2 :=@Int.natCast_add
abbrev hF2 :=@Int.natCast_one
abbrev iF2 :=@List.length_cons
abbrev jF2 :=@List.drop_length
abbrev kF2 :=@List.mem_map
abbrev lF2 :=@Option.bind_eq_some_iff
abbrev mF2 :=@List.map_append
abbrev nF2 :=@Int.toNat_natCast
abbrev oF2 :=@Option.some.inj
abbrev pF2 :=@Bool.false_eq_true
abbrev qF2 :=@List.map_cons
abbrev rF2 :=@Nat.le_of_ble_eq_true
abbrev sF2 :=@List.getElem?_eq_some_iff
abbrev tF2 :=@List.getElem?_append_left
abbrev uF2 :=@Nat.lt_of_lt_of_le
abbrev vF2 :=@Int.le_refl
abbrev wF2 :=@List.mem_singleton
abbrev xF2 :=@List.pairwise_cons
abbrev yF2 :=@List.getElem?_append_right
abbrev zF2 :=@List.mem_filter
abbrev aG2 :=@List.pairwise_append
abbrev bG2 :=@Bool.not_eq_true'
abbrev cG2 :=@List.drop_eq_nil_of_le
abbrev dG2 :=@Array.toArray_toList
abbrev eG2 :=@Array.getElem?_eq_some_iff
abbrev fG2 :=@List.length_drop
abbrev gG2 :=@List.length_map
abbrev hG2 :=@List.take_append_drop
abbrev iG2 :=@Array.getD_eq_getD_getElem?
abbrev jG2 :=@List.take_append_of_le_length
abbrev kG2 :=@Bool.or_eq_true
abbrev lG2 :=@List.length_nil
abbrev mG2 :=@List.flatMap_cons
abbrev nG2 :=@Nat.succ_mul
abbrev oG2 :=@List.getElem_of_mem
abbrev pG2 :=@List.all_eq_true
abbrev qG2 :=@List.getElem?_cons_succ
abbrev rG2 :=@Array.getElem?_eq_getElem
abbrev sG2 :=@Nat.le_trans
abbrev tG2 :=@Array.getElem?_toList
abbrev uG2 :=@List.getElem?_eq_none
abbrev vG2 :=@List.nodup_append
abbrev wG2 :=@List.drop_left
abbrev xG2 :=@Nat.zero_add
abbrev yG2 :=@List.drop_of_length_le
abbrev zG2 :=@Option.getD_some
abbrev aH2 :=@List.mem_flatMap
abbrev bH2 :=@List.filter_cons
abbrev cH2 :=@List.take_left
abbrev dH2 :=@Option.isSome_iff_exists
abbrev eH2 :=@List.getElem?_take
abbrev fH2 :=@List.cons_append
abbrev gH2 :=@Bool.and_eq_true_iff
abbrev hH2 :=@List.getElem?_map
abbrev iH2 :=@List.foldl_cons
abbrev jH2 :=@List.getElem?_drop
abbrev kH2 :=@List.all_cons
abbrev lH2 :=@List.cons.inj
abbrev mH2 :=@Array.getElem?_setIfInBounds
abbrev nH2 :=@List.size_toArray
abbrev oH2 :=@List.map_congr_left
abbrev pH2 :=@List.length_pos_iff
abbrev qH2 :=@List.filter_sublist
abbrev rH2 :=@List.any_eq_true
abbrev sH2 :=@Nat.eq_of_beq_eq_true
abbrev tH2 :=@List.pairwise_iff_getElem
abbrev uH2 :=@List.length_set
abbrev vH2 :=@List.nodup_cons
abbrev wH2 :=@Bool.or_eq_false_iff
abbrev xH2 :=@List.filter_nil
abbrev yH2 :=@Int.lt_trichotomy
abbrev zH2 :=@Bool.and_true
abbrev aI2 :=@Int.eq_ofNat_of_zero_le
abbrev bI2 :=@List.getElem?_cons_zero
abbrev cI2 :=@List.range'_succ
abbrev dI2 :=@Int.emod_lt_of_pos
mutual
inductive Ty where
 | int (k:IntKind) | bool | str | err
 | st (fs:Tys)
 | row (E:TypeId) (t:Ty)
 | any (T : TypeId) (t : Ty)            -- an interface value of this dynamic type
inductive Tys where
 | nil
 | cons (t:Ty) (ts:Tys)
end
mutual
def Ty.D :Ty→Type
 | .int _=>Int
 | .bool=>Bool
 | .str=>ByteArray
 | .err=>Bool
 | .st fs=>fs.D
 | .row _ t=>List t.D
 | .any _ t=>t.D
def Tys.D :Tys→Type
 | .nil=>Unit
 | .cons t ts=>t.D×ts.D
end
mutual
def Ty.sz :Ty→Nat
 | .st fs=>fs.sz
 | .int _=>1
 | .bool=>1
 | .str=>1
 | .err=>1
 | .row _ _=>1
 | .any _ _=>1
def Tys.sz :Tys→Nat
 | .nil=>0
 | .cons t ts=>t.sz+ts.sz
end
mutual
def Ty.z :(t:Ty)→t.D
 | .int _=>(0:Int)
 | .bool=>false
 | .str=>ByteArray.empty
 | .err=>true
 | .st fs=>fs.z
 | .row _ _=>[]
 | .any _ t=>t.z
def Tys.z :(ts:Tys)→ts.D
 | .nil=>()
 | .cons t ts=>(t.z,ts.z)
end
abbrev eqI (x y:Int):Bool:=decide (x=y)
abbrev eqB (x y:Bool):Bool:=x==y
abbrev eqS (x y:ByteArray):Bool:=x.toList==y.toList
mutual
def Ty.eqD :(t:Ty)→t.D→t.D→Bool
 | .int _,x,y=>eqI x y
 | .bool,x,y=>eqB x y
 | .str,x,y=>eqS x y
 | .err,_,_=>false
 | .st fs,x,y=>fs.eqD x y
 | .row _ _,_,_=>false
 | .any _ _,_,_=>false
def Tys.eqD :(ts:Tys)→ts.D→ts.D→Bool
 | .nil,_,_=>true
 | .cons t ts,x,y=>t.eqD x.1 y.1&&ts.eqD x.2 y.2
end
mutual
def Ty.ht :Ty→Nat
 | .st fs=>fs.ht+1
 | .int _=>1
 | .bool=>1
 | .str=>1
 | .err=>1
 | .row _ _=>1
 | .any _ _=>1
def Tys.ht :Tys→Nat
 | .nil=>1
 | .cons t ts=>max t.ht ts.ht
end
def kbeq :IntKind→IntKind→Bool
 | .i8,.i8=>true | .i16,.i16=>true | .i32,.i32=>true | .i64,.i64=>true
 | .u8,.u8=>true | .u16,.u16=>true | .u32,.u32=>true | .u64,.u64=>true
 | _,_=>false
theorem hA1 {a b:IntKind} (h:kbeq a b=true):a=b:=by cases a <;> cases b <;> first | rfl | cases h
mutual
def Ty.beq :Ty→Ty→Bool
 | .int a,.int b=>kbeq a b
 | .bool,.bool=>true
 | .str,.str=>true
 | .err,.err=>true
 | .st a,.st b=>a.beq b
 | .row E a,.row F b=>Nat.beq E F&&a.beq b
 | .any E a,.any F b=>Nat.beq E F&&a.beq b
 | _,_=>false
def Tys.beq :Tys→Tys→Bool
 | .nil,.nil=>true
 | .cons a x,.cons b y=>a.beq b&&x.beq y
 | _,_=>false
end
mutual
theorem Ty.beq_eq :∀{a b:Ty},a.beq b=true→a=b
 | .int a,.int b,h=>congrArg Ty.int (hA1 (by simpa[Ty.beq]using h))
 | .bool,.bool,_=>rfl
 | .str,.str,_=>rfl
 | .err,.err,_=>rfl
 | .st a,.st b,h=>congrArg Ty.st (Tys.beq_eq (a:=a) (b:=b) (by simpa[Ty.beq]using h))
 | .row E a,.row F b,h=>by simp only[Ty.beq,iE2]at h;have h1:=sH2 h.1;have h2:=Ty.beq_eq h.2;subst h1 h2;rfl
 | .any E a,.any F b,h=>by simp only[Ty.beq,iE2]at h;have h1:=sH2 h.1;have h2:=Ty.beq_eq h.2;subst h1 h2;rfl
 | .any _ _,.int _,h | .any _ _,.bool,h | .any _ _,.str,h | .any _ _,.err,h | .any _ _,.st _,h | .any _ _,.row _ _,h
 | .int _,.any _ _,h | .bool,.any _ _,h | .str,.any _ _,h | .err,.any _ _,h | .st _,.any _ _,h | .row _ _,.any _ _,h
 | .int _,.bool,h | .int _,.str,h | .int _,.err,h | .int _,.st _,h | .int _,.row _ _,h
 | .bool,.int _,h | .bool,.str,h | .bool,.err,h | .bool,.st _,h | .bool,.row _ _,h
 | .str,.int _,h | .str,.bool,h | .str,.err,h | .str,.st _,h | .str,.row _ _,h
 | .err,.int _,h | .err,.bool,h | .err,.str,h | .err,.st _,h | .err,.row _ _,h
 | .st _,.int _,h | .st _,.bool,h | .st _,.str,h | .st _,.err,h | .st _,.row _ _,h
 | .row _ _,.int _,h | .row _ _,.bool,h | .row _ _,.str,h | .row _ _,.err,h | .row _ _,.st _,h=>by simp[Ty.beq]at h
theorem Tys.beq_eq :∀{a b:Tys},a.beq b=true→a=b
 | .nil,.nil,_=>rfl
 | .cons a x,.cons b y,h=>by simp only[Tys.beq,iE2]at h;have h1:=Ty.beq_eq h.1;have h2:=Tys.beq_eq h.2;subst h1 h2;rfl
 | .nil,.cons _ _,h | .cons _ _,.nil,h=>by simp[Tys.beq]at h
end
def cD1 (a b:Ty) (x:a.D):Option b.D:=if h:a.beq b=true then some (Ty.beq_eq h ▸ x)else none
theorem aK {a b:Ty} {x:a.D} {y:b.D} (h:cD1 a b x=some y):∃e:a=b,y=e ▸ x:=by
 unfold cD1 at h;split at h
 ·rename_i hb;exact⟨Ty.beq_eq hb,(oF2 h).symm⟩
 ·cases h
def ifB :Nat:=1000000000
inductive Lf where
 | u                                   -- nothing is known
 | un                                  -- what was never written
 | v (t : Ty) (x : t.D)                -- a value of one cell; what it leads to is never written again
 | nl                                  -- the nil slice
 | o (r : Nat)                         -- the slice that is row r, whole
 | oh (r : Nat) (h : Int)              -- its first h elements
 | ot (r : Nat) (l : Int) (z : Nat)    -- it from l on; so many cells an element has
 | p (b off : Nat)                     -- the address of a cell of variable b
 | np                                  -- a nil pointer
 | ni                                  -- a nil interface
 | fn (f : FuncId) (cs : List Nat)     -- a function value; what it has captured: variables (from ifB on: an interface value over a variable's address)
inductive Slot where
 | lf (c:Lf)
 | ag (l : List Lf)                    -- a record, by its cells
 | tp (l : List (Bool × List Lf))      -- several results: is it a record, its cells
 | q (l : List Lf)                     -- the address of cells that are never written again, and what they hold
 | e (r : Nat) (i : Int) (off : Nat)   -- the address of a cell of element i of row r
inductive Ob where
 | row (E:TypeId) (t:Ty) (xs:List t.D)
 | box (T:TypeId) (l:List Lf)
structure St where
 sl:List Slot
 ob:List (Nat×Ob)
 b : Nat                               -- names from here on are given to what is made
mutual
def Ty.leaves :(t:Ty)→t.D→List Lf
 | .int k,x=>[.v (.int k) x]
 | .bool,x=>[.v .bool x]
 | .str,x=>[.v .str x]
 | .err,x=>[.v .err x]
 | .st fs,x=>fs.leaves x
 | .row E t,x=>[.v (.row E t) x]
 | .any T t,x=>[.v (.any T t) x]
def Tys.leaves :(ts:Tys)→ts.D→List Lf
 | .nil,_=>[]
 | .cons t ts,x=>t.leaves x.1++ts.leaves x.2
end
def Lf.as (t:Ty):Lf→Option t.D
 | .v t' x=>cD1 t' t x
 | .nl=>match t with | .row _ _=>some [] | _=>none
 | .ni=>match t with | .err=>some true | _=>none
 | .fn f _=>match t with | .err=>if Nat.ble ifB f=true then some false else none | _=>none
 | _=>none
mutual
/-- The first cells as a value; the rest. -/
def Ty.pack :(t:Ty)→List Lf→Option (t.D×List Lf)
 | .st fs,l=>fs.pack l
 | .int k,l=>match l with | []=>none | c::r=>(match c.as (.int k)with | some x=>some (x,r) | none=>none)
 | .bool,l=>match l with | []=>none | c::r=>(match c.as .bool with | some x=>some (x,r) | none=>none)
 | .str,l=>match l with | []=>none | c::r=>(match c.as .str with | some x=>some (x,r) | none=>none)
 | .err,l=>match l with | []=>none | c::r=>(match c.as .err with | some x=>some (x,r) | none=>none)
 | .row E t,l=>match l with | []=>none | c::r=>(match c.as (.row E t)with | some x=>some (x,r) | none=>none)
 | .any T t,l=>match l with | []=>none | c::r=>(match c.as (.any T t)with | some x=>some (x,r) | none=>none)
def Tys.pack :(ts:Tys)→List Lf→Option (ts.D×List Lf)
 | .nil,l=>some ((),l)
 | .cons t ts,l=>match t.pack l with
  | some (x,r)=>match ts.pack r with
   | some (y,s)=>some ((x,y),s)
   | none=>none
  | none=>none
end
def Tys.off :Tys→Nat→Nat
 | .nil,_=>0
 | .cons _ _,0=>0
 | .cons t ts,n+1=>t.sz+ts.off n
def Tys.get :Tys→Nat→Option Ty
 | .nil,_=>none
 | .cons t _,0=>some t
 | .cons _ ts,n+1=>ts.get n
def Ty.isSt :Ty→Bool
 | .st _=>true
 | _=>false
mutual
inductive Sh where
 | val (t:Ty)
 | own (E:TypeId) (t:Ty)
 | mv (E:TypeId) (t:Ty)
 | box (T:TypeId) (l:Shs)
 | fn (f:FuncId) (l:Shs)
 | rcd (l : Shs)                        -- a record whose rows are the call's own: handed over for good
inductive Shs where
 | nil
 | cons (s:Sh) (l:Shs)
end
mutual
def Sh.T :Sh→Ty
 | .val t=>t
 | .own E t=>.row E t
 | .mv E t=>.row E t
 | .box _ l=>.st l.T
 | .fn _ l=>.st l.T
 | .rcd l=>.st l.T
def Shs.T :Shs→Tys
 | .nil=>.nil
 | .cons s l=>.cons s.T l.T
end
def Tys.app :Tys→Tys→Tys
 | .nil,b=>b
 | .cons t a,b=>.cons t (a.app b)
def Tys.join :(a b:Tys)→a.D→b.D→(a.app b).D
 | .nil,_,_,y=>y
 | .cons _ a,b,x,y=>(x.1,a.join b x.2 y)
def Tys.fst :(a b:Tys)→(a.app b).D→a.D
 | .nil,_,_=>()
 | .cons _ a,b,x=>(x.1,a.fst b x.2)
def Tys.snd :(a b:Tys)→(a.app b).D→b.D
 | .nil,_,x=>x
 | .cons _ a,b,x=>a.snd b x.2
def Shs.inout :Shs→Shs
 | .nil=>.nil
 | .cons (.val _) l=>l.inout
 | .cons (.mv _ _) l=>l.inout
 | .cons (.rcd _) l=>l.inout
 | .cons s l=>.cons s l.inout
inductive Keep where
 | as                                  -- as it is
 | frz                                 -- rows of the call's own become values
 | own (E : TypeId) (t : Ty)            -- a nil slice becomes a row of the call's own
 | val (t : Ty)                        -- a row, or nil, becomes a value of this kind
 | bown (E : TypeId) (t : Ty) (j : Nat)  -- of the variable that it leads to, the nil slice in cell j becomes a row
inductive Ann where
 | no
 | two (a b:Ann)
 | at_ (l:Nat) (k:List (Nat×Keep)) (a:Ann)
def aa (l:List Nat):List (Nat×Keep):=l.map fun i=>(i,.as)
structure FnD where
 fid:FuncId
 par:Shs
 res:Shs
 n : Nat                               -- temporaries
 rv:List ResultVar
 body:Option Code
 an:Ann
 sem : par.T.D → Option (res.T.app par.inout.T).D := fun _ => none    -- what one without code here comes to
 opt : Bool := false                   -- the result is a pointer that may be nil: by its shape a bool (is it nil?) and a variable
 idn : Bool := false                   -- what is handed over (variables and functions alone) comes back as the same variables, those within others too
structure InD where
 n:Nat
 rv:Nat
 body:Option Code
structure Env where
 ty:List (TypeId×Ty)
 one : List (TypeId × Bool)            -- types of one cell that have no kind here; is it a pointer?
 fn:List (Nat×FnD)
 inl:List (FuncId×InD)
 eqs : List TypeId := []               -- records that are compared
 meths : List (TypeId × String × FuncId × Option TypeId) := []   -- methods of pointer types: is the receiver read through the pointer (a value of this type)?
 sels : List (FuncId × List (ByteArray × Nat)) := []   -- functions that tell, by a text, a place within the variable that is handed over (nil: none)
 lits : List (TypeId × Nat × Nat) := []  -- literals that are values at once: their types, destinations, lengths
def look {α:Type}:List (Nat×α)→Nat→Option α
 | [],_=>none
 | (k,a)::l,n=>if Nat.beq k n=true then some a else look l n
def Env.argT (E:Env) (f:Nat):Tys:=match look E.fn f with | some d=>d.par.T | none=>.nil
def Env.resT (E:Env) (f:Nat):Tys:=match look E.fn f with | some d=>d.res.T.app d.par.inout.T | none=>.nil
def Tys.nilB :(ts:Tys)→ts.D→Bool
 | .cons .bool _,x=>x.1
 | _,_=>false
def Tys.nilD :(ts:Tys)→ts.D
 | .cons .bool ts=>((true:Bool),ts.z)
 | ts=>ts.z
def Tys.optQ :(ts:Tys)→ts.D→Bool×(Bool→ts.D)
 | .cons .bool _,x=>(x.1,fun b=>(b,x.2))
 | _,x=>(false,fun _=>x)
theorem Tys.optQ_eq :∀(ts:Tys) (x:ts.D),(ts.optQ x).2 (ts.optQ x).1=x
 | .nil,_ | .cons .bool _,_ | .cons (.int _) _,_ | .cons .str _,_ | .cons .err _,_ | .cons (.st _) _,_ | .cons (.row _ _) _,_ | .cons (.any _ _) _,_=>rfl
def put {α:Type}:List (Nat×α)→Nat→α→List (Nat×α)
 | [],n,a=>[(n,a)]
 | (k,b)::l,n,a=>if Nat.beq k n=true then(k,a)::l else(k,b)::put l n a
def del {α:Type}:List (Nat×α)→Nat→List (Nat×α)
 | [],_=>[]
 | (k,b)::l,n=>if Nat.beq k n=true then del l n else(k,b)::del l n
noncomputable def getL (l:List Slot):Nat→Slot:=List.rec (motive:=fun _=>Nat→Slot) (fun _=>.lf .u) (fun a _ ih i=>Nat.rec (motive:=fun _=>Slot) a (fun n _=>ih n) i) l
noncomputable def setL (l:List Slot) (x:Slot):Nat→List Slot:=List.rec (motive:=fun _=>Nat→List Slot) (fun _=>[]) (fun a l ih i=>Nat.rec (motive:=fun _=>List Slot) (x::l) (fun n _=>a::ih n) i) l
theorem qN1 :∀(l:List Slot) (i:Nat),getL l i=l.getD i (.lf .u)
 | [],_=>rfl
 | _::_,0=>rfl
 | _::l,i+1=>(qN1 l i).trans (by simp)
theorem uO1 :∀(l:List Slot) (x:Slot) (i:Nat),setL l x i=l.set i x
 | [],_,_=>rfl
 | _::_,_,0=>rfl
 | a::l,x,i+1=>congrArg (a :: ·) (uO1 l x i)
noncomputable def St.get (s:St) (i:Nat):Slot:=getL s.sl i
theorem St.get_def (s:St) (i:Nat):s.get i=s.sl.getD i (.lf .u):=qN1 _ _
noncomputable def St.set (s:St) (i:Nat) (x:Slot):St:=match s with | ⟨sl,ob,b⟩=>⟨setL sl x i,ob,b⟩
theorem St.set_def (s:St) (i:Nat) (x:Slot):s.set i x=⟨s.sl.set i x,s.ob,s.b⟩:=congrArg (fun l=>(⟨l,s.ob,s.b⟩:St)) (uO1 s.sl x i)
def St.withOb (s:St) (ob:List (Nat×Ob)):St:=match s with | ⟨sl,_,b⟩=>⟨sl,ob,b⟩
noncomputable def St.setd (s:St) (d:Option Nat) (x:Slot):St:=match d with | some i=>s.set i x | none=>s
def sU1 :Value→Option Slot
 | .int k n=>some (.lf (.v (.int k) n))
 | .bool b=>some (.lf (.v .bool b))
 | .string s=>some (.lf (.v .str s))
 | .slice none 0 0=>some (.lf .nl)
 | .nilIface=>some (.lf .ni)
 | .pointer none=>some (.lf .np)
 | _=>none
noncomputable def St.opnd (s:St):Operand→Option Slot
 | .tmp t=>some (s.get t)
 | .const v=>sU1 v
 | .func f=>if Nat.blt f ifB=true then some (.lf (.fn f []))else none
 | .global _=>none
def Lf.known :Lf→Bool
 | .u=>false
 | .un=>false
 | _=>true
def Slot.cells :Slot→Option (List Lf)
 | .lf c=>if c.known=true then some [c]else none
 | .ag l=>if l.all Lf.known=true then some l else none
 | _=>none
def zQ1 (agg:Bool) (l:List Lf):Option Slot:=
 if agg=true then some (.ag l)else match l with | [c]=>some (.lf c) | _=>none
def Lf.frz (ob:List (Nat×Ob)):Lf→Lf
 | .o r=>match look ob r with | some (.row E t xs)=>.v (.row E t) xs | _=>.o r
 | .oh r h=>match look ob r with | some (.row E t xs)=>.v (.row E t) (xs.take h.toNat:List t.D) | _=>.oh r h
 | .ot r l z=>match look ob r with | some (.row E t xs)=>if Nat.beq z t.sz=true then .v (.row E t) (xs.drop l.toNat:List t.D)else .u | _=>.ot r l z
 | c=>c
def Lf.frz1 (r:Nat) (E:TypeId) (t:Ty) (xs:List t.D):Lf→Lf
 | .o r'=>if Nat.beq r' r=true then .v (.row E t) xs else .o r'
 | .oh r' h=>if Nat.beq r' r=true then .v (.row E t) (xs.take h.toNat:List t.D)else .oh r' h
 | .ot r' l z=>if Nat.beq r' r=true then(if Nat.beq z t.sz=true then .v (.row E t) (xs.drop l.toNat:List t.D)else .u)else .ot r' l z
 | x=>x
def Slot.map (f:Lf→Lf):Slot→Slot
 | .lf c=>.lf (f c)
 | .ag l=>.ag (l.map f)
 | .tp l=>.tp (l.map fun x=>(x.1,x.2.map f))
 | .q l=>.q (l.map f)
 | s=>s
def Ob.map (f:Lf→Lf):Ob→Ob
 | .box T l=>.box T (l.map f)
 | o=>o
def St.frz (s:St) (r:Nat):St:=
 match look s.ob r with
 | some (.row E t xs)=>⟨s.sl.map (Slot.map (Lf.frz1 r E t xs)),(del s.ob r).map fun x=>(x.1,x.2.map (Lf.frz1 r E t xs)),s.b⟩
 | _=>s
def St.frzAll (s:St):List Lf→St
 | []=>s
 | c::l=>match c with
  | .o r=>(s.frz r).frzAll l
  | .oh r _=>(s.frz r).frzAll l
  | .ot r _ _=>(s.frz r).frzAll l
  | _=>s.frzAll l
def bt (s:ByteArray) (i:Int):Int:=((s.data.toList.getD i.toNat 0).toNat:Int)
def aU1 (xs:List Int):ByteArray:=⟨(xs.map fun n=>UInt8.ofNat n.toNat).toArray⟩
def xG (s:ByteArray):List Int:=s.data.toList.map fun b=>(b.toNat:Int)
def andI (k:IntKind) (x y:Int):Int:=k.wrap (BitVec.ofInt k.bits x &&& BitVec.ofInt k.bits y).toNat
def orI (k:IntKind) (x y:Int):Int:=k.wrap (BitVec.ofInt k.bits x ||| BitVec.ofInt k.bits y).toNat
def xorI (k:IntKind) (x y:Int):Int:=k.wrap (BitVec.ofInt k.bits x ^^^ BitVec.ofInt k.bits y).toNat
def shlI (k:IntKind) (x y:Int):Int:=k.wrap (x*2 ^ (min y.toNat k.bits))
def shrI (k:IntKind) (x y:Int):Int:=x.fdiv (2 ^ (min y.toNat k.bits))
def hB1 (op:BinOp) (k:IntKind) (x y:Int):Option (List Bool×Lf):=
 match op with
 | .shl=>some ([decide (0≤y)],.v (.int k) (shlI k x y:Int))
 | .shr=>some ([decide (0≤y)],.v (.int k) (shrI k x y:Int))
 | _=>none
def sN1 (op:BinOp) (k:IntKind) (x y:Int):Option (List Bool×Lf):=
 match op with
 | .add=>some ([],.v (.int k) (k.wrap (x+y):Int))
 | .sub=>some ([],.v (.int k) (k.wrap (x-y):Int))
 | .mul=>some ([],.v (.int k) (k.wrap (x*y):Int))
 | .quo=>some ([!decide (y=0)],.v (.int k) (k.wrap (x.tdiv y):Int))
 | .rem=>some ([!decide (y=0)],.v (.int k) (x.tmod y:Int))
 | .eql=>some ([],.v .bool (decide (x=y):Bool))
 | .neq=>some ([],.v .bool (!decide (x=y):Bool))
 | .lss=>some ([],.v .bool (decide (x<y):Bool))
 | .leq=>some ([],.v .bool (decide (x≤y):Bool))
 | .gtr=>some ([],.v .bool (decide (x>y):Bool))
 | .geq=>some ([],.v .bool (decide (x≥y):Bool))
 | .and=>some ([],.v (.int k) (andI k x y:Int))
 | .or=>some ([],.v (.int k) (orI k x y:Int))
 | .xor=>some ([],.v (.int k) (xorI k x y:Int))
 | _=>none
def dP1 (op:BinOp) (x y:ByteArray):Option (List Bool×Lf):=
 match op with
 | .add=>some ([decide (x.size+y.size≤9223372036854775807)],.v .str (x++y:ByteArray))
 | .eql=>some ([],.v .bool (x.toList==y.toList:Bool))
 | .neq=>some ([],.v .bool (!(x.toList==y.toList):Bool))
 | .lss=>some ([],.v .bool (Op.bytesLess x.toList y.toList:Bool))
 | .geq=>some ([],.v .bool (!Op.bytesLess x.toList y.toList:Bool))
 | _=>none
def rP1 (op:BinOp) (x y:Bool):Option (List Bool×Lf):=
 match op with
 | .eql=>some ([],.v .bool (x==y:Bool))
 | .neq=>some ([],.v .bool (!(x==y):Bool))
 | _=>none
def zV1 (op:BinOp) (x:Bool):Option (List Bool×Lf):=
 match op with
 | .eql=>some ([],.v .bool (x:Bool))
 | .neq=>some ([],.v .bool (!x:Bool))
 | _=>none
def hH1 (op:BinOp) (x:Bool):Option (List Bool×Lf):=
 match op with
 | .eql=>some ([],.v .bool (x:Bool))
 | .neq=>some ([],.v .bool (!x:Bool))
 | _=>none
def kY1 (op:BinOp):Lf→Lf→Option (List Bool×Lf)
 | .v (.int k) x,.v (.int k') y=>match hB1 op k x y with
  | some r=>some r
  | none=>if kbeq k k'=true then sN1 op k x y else none
 | .v .str x,.v .str y=>dP1 op x y
 | .v .bool x,.v .bool y=>rP1 op x y
 | .v .err x,.ni=>zV1 op x
 | .p _ _,.np=>hH1 op false
 | .np,.np=>hH1 op true
 | _,_=>none
inductive Out (E:Env):Type 1 where
 /-- These must hold; the new slot; the rows and variables, as they are then. -/
 | go (g:List Bool) (x:Slot) (ob:List (Nat×Ob))
 | br (c:Bool) (x y:Slot)
 | call (f:Nat) (x:(E.argT f).D) (k:(E.resT f).D→Option (Slot×List (Nat×Ob)))
 | callN (f:Nat) (x:(E.argT f).D) (k:(E.resT f).D→Option (Slot×List (Nat×Ob))) (q:(E.resT f).D→Bool×(Bool→(E.resT f).D))
 | inl (f:FuncId) (x:List Slot)
def Lf.names (n:Nat):Lf→Bool
 | .o r=>Nat.beq r n
 | .oh r _=>Nat.beq r n
 | .ot r _ _=>Nat.beq r n
 | .p b _=>Nat.beq b n
 | .fn _ cs=>cs.any (Nat.beq n)
 | _=>false
def Slot.names (n:Nat):Slot→Bool
 | .lf c=>c.names n
 | .ag l=>l.any (Lf.names n)
 | .tp l=>l.any fun x=>x.2.any (Lf.names n)
 | .q l=>l.any (Lf.names n)
 | .e r _ _=>Nat.beq r n
def Ob.names (n:Nat):Ob→Bool
 | .row .. =>false
 | .box _ l=>l.any (Lf.names n)
def St.fresh (s:St) (n:Nat):Bool:= !(s.ob.any fun x=>Nat.beq x.1 n||x.2.names n) && !(s.sl.any (Slot.names n))
def St.id (s:St) (d:Option Nat):Nat:=match d with | some i=>s.b+12*i | none=>s.b+900000
def Env.t (E:Env) (T:TypeId):Option Ty:=look E.ty T
def Env.litO (E:Env) (o:Oper):Bool:=match o.op,o.dst with
 | .buildSlice T n _,some d=>E.lits.any fun x=>Nat.beq x.1 T&&Nat.beq x.2.1 d&&Nat.beq x.2.2 n
 | _,_=>false
def Env.rowT (E:Env) (T:TypeId):Option (TypeId×Ty):=match E.t T with | some (.row e t)=>some (e,t) | _=>none
def iK (ob:List (Nat×Ob)) (e:TypeId) (t:Ty) (r:Nat):Option (List t.D):=match look ob r with
 | some (.row e' t' xs)=>cD1 (.row e' t') (.row e t) xs
 | _=>none
def Lf.list (ob:List (Nat×Ob)) (e:TypeId) (t:Ty):Lf→Option (List t.D)
 | .v t' x=>cD1 t' (.row e t) x
 | .nl=>some []
 | .o r=>iK ob e t r
 | .oh r h=>(iK ob e t r).bind fun xs=>some (xs.take h.toNat)
 | .ot r l z=>if Nat.beq z t.sz=true then(iK ob e t r).bind fun xs=>some (xs.drop l.toNat)else none
 | _=>none
def Lf.len (ob:List (Nat×Ob)):Lf→Option Int
 | .v .str s=>some (s:ByteArray).size
 | .v (.row _ t) xs=>some (xs:List t.D).length
 | .nl=>some 0
 | .o r=>match look ob r with | some (.row _ _ xs)=>some xs.length | _=>none
 | .ot r l _=>match look ob r with | some (.row _ _ xs)=>some ((xs.length-l.toNat:Nat):Int) | _=>none
 | _=>none
def Lf.int :Lf→Option (IntKind×Int)
 | .v (.int k) n=>some (k,n)
 | _=>none
noncomputable def mL (s:St):Option Operand→Option (Option Int)
 | none=>some none
 | some x=>match s.opnd x with | some (.lf c)=>(match c.int with | some (_,n)=>some (some n) | none=>none) | _=>none
def vJ1 (l:List Lf) (off:Nat) (m:List Lf):Option (List Lf):=
 if off+m.length≤l.length then some (l.take off++m++l.drop (off+m.length))else none
noncomputable def tS (fs:Tys) (s:St):List Lf→List (Nat×Operand)→Option (List Lf)
 | l,[]=>some l
 | l,(i,x)::r=>match s.opnd x with
  | some y=>match y.cells with
   | some c=>match fs.get i with
    | some t=>if t.sz=c.length then(match vJ1 l (fs.off i) c with | some l'=>tS fs s l' r | none=>none)else none
    | none=>none
   | none=>none
  | none=>none
noncomputable def mQ (t:Ty) (s:St):Nat→List (Nat×Operand)→Option (List t.D)
 | _,[]=>some []
 | n,(i,x)::r=>if Nat.beq i n=true then(match s.opnd x with
  | some y=>match y.cells with
   | some c=>match t.pack c with
    | some (z,[])=>match mQ t s (n+1) r with | some zs=>some (z::zs) | none=>none
    | _=>none
   | none=>none
  | none=>none)else none
noncomputable def pH (s:St):List (Nat×Operand)→List Lf
 | []=>[]
 | (_,x)::r=>(match s.opnd x with | some y=>(match y.cells with | some c=>c | none=>[]) | none=>[])++pH s r
def eD : Nat := 17179869184   -- 2^34
def appd (E:Env) (e:TypeId) (t:Ty) (x y:List t.D) (ob:List (Nat×Ob)) (d:Nat):Out E:=
 .go [decide (x.length+y.length≤eD)] (.lf (.o d)) (put ob d (.row e t (x++y)))
def Shs.flat :Shs→Bool
 | .nil=>true
 | .cons (.val _) l=>l.flat
 | .cons (.own _ _) l=>l.flat
 | .cons _ _=>false
def Sh.w :Sh→Nat
 | .val t=>t.sz
 | .rcd l=>l.T.sz
 | _=>1
mutual
/-- The content of what is handed over by its cells; the names of its rows and variables, in order. -/
def Sh.take (ob:List (Nat×Ob)):(s:Sh)→List Lf→Option (s.T.D×List Nat)
 | .val t,l=>match t.pack (l.map (Lf.frz ob))with | some (x,[])=>some (x,[]) | _=>none
 | .own e t,l=>match l with
  | [.o r]=>(iK ob e t r).bind fun ys=>some (ys,[r])
  | _=>none
 | .mv e t,l=>match l with
  | [.o r]=>(iK ob e t r).bind fun ys=>some (ys,[r])
  | _=>none
 | .box T sh,l=>match l with
  | [.p b 0]=>match look ob b with
   | some (.box T' c)=>if Nat.beq T T'=true then(match sh.take ob c with | some (x,n)=>some (x,b::n) | none=>none)else none
   | _=>none
  | _=>none
 | .fn f sh,l=>match l with
  | [.fn f' cs]=>if Nat.beq f f'=true then sh.take ob (cs.map fun b=>.p b 0)else none
  | _=>none
 | .rcd sh,l=>if sh.flat=true then sh.take ob l else none
def Shs.take (ob:List (Nat×Ob)):(s:Shs)→List Lf→Option (s.T.D×List Nat)
 | .nil,c=>match c with | []=>some ((),[]) | _=>none
 | .cons s l,c=>match s.take ob (c.take s.w)with
  | some (x,a)=>match l.take ob (c.drop s.w)with
   | some (y,b)=>some ((x,y),a++b)
   | none=>none
  | none=>none
end
def Sh.agg :Sh→Bool
 | .val (.st _)=>true
 | .rcd _=>true
 | _=>false
def Slot.isAg :Slot→Bool
 | .ag _=>true
 | _=>false
def beqB :Bool→Bool→Bool
 | true,true=>true
 | false,false=>true
 | _,_=>false
def Shs.takeA (ob:List (Nat×Ob)):(s:Shs)→List Slot→Option (s.T.D×List Nat)
 | .nil,c=>match c with | []=>some ((),[]) | _=>none
 | .cons s l,c=>match c with
  | []=>none
  | x::r=>match x.cells with
   | some cl=>if beqB x.isAg s.agg=true then(match s.take ob cl with
    | some (x,a)=>match l.takeA ob r with
     | some (y,b)=>some ((x,y),a++b)
     | none=>none
    | none=>none)else none
   | none=>none
def Shs.allBox :Shs→Bool
 | .nil=>true
 | .cons (.box _ _) l=>l.allBox
 | .cons _ _=>false
def nA1 :Lf→Nat
 | .p b 0=>b
 | _=>0
mutual
/-- Cells and objects out of a content; the names are given, in order; what is left of these. -/
def Sh.mk (ns:List Nat):(s:Sh)→s.T.D→Option (List Lf×List (Nat×Ob)×List Nat)
 | .val t,x=>some (t.leaves x,[],ns)
 | .own e t,x=>match ns with
  | []=>none
  | r::m=>some ([.o r],[(r,.row e t x)],m)
 | .mv e t,x=>match ns with
  | []=>none
  | r::m=>some ([.o r],[(r,.row e t x)],m)
 | .box T sh,x=>match ns with
  | []=>none
  | b::m=>match sh.mk m x with
   | some (c,ob,m')=>some ([.p b 0],(b,.box T c)::ob,m')
   | none=>none
 | .fn f sh,x=>match(if sh.allBox=true then sh.mk ns x else none)with
  | some (c,ob,m)=>some ([.fn f (c.map nA1)],ob,m)
  | none=>none
 | .rcd sh,x=>if sh.flat=true then sh.mk ns x else none
def Shs.mk (ns:List Nat):(s:Shs)→s.T.D→Option (List Lf×List (Nat×Ob)×List Nat)
 | .nil,_=>some ([],[],ns)
 | .cons s l,x=>match s.mk ns x.1 with
  | some (c,ob,m)=>match l.mk m x.2 with
   | some (c',ob',m')=>some (c++c',ob++ob',m')
   | none=>none
  | none=>none
end
def Shs.mkA (ns:List Nat):(s:Shs)→s.T.D→Option (List (Bool×List Lf)×List (Nat×Ob)×List Nat)
 | .nil,_=>some ([],[],ns)
 | .cons s l,x=>match s.mk ns x.1 with
  | some (c,ob,m)=>match l.mkA m x.2 with
   | some (c',ob',m')=>some ((s.agg,c)::c',ob++ob',m')
   | none=>none
  | none=>none
def gS (x:Bool×List Lf):Slot:=if x.1=true then .ag x.2 else match x.2 with | [c]=>.lf c | _=>.lf .u
def eI (ob:List (Nat×Ob)):List (Nat×Ob)→List (Nat×Ob)
 | []=>ob
 | (k,o)::l=>eI (put ob k o) l
def upto :Nat→List Nat
 | 0=>[]
 | n+1=>upto n++[n]
def fE (a:Nat):Nat→List Nat
 | 0=>[]
 | n+1=>a::fE (a+1) n
noncomputable def St.cellsOf (s:St):List Operand→Option (List Slot)
 | []=>some []
 | x::l=>match s.opnd x with | some y=>(match s.cellsOf l with | some r=>some (y::r) | none=>none) | none=>none
mutual
/-- What is handed over as a value: rows in it are values from now on. -/
def Sh.vals (ob:List (Nat×Ob)):Sh→List Lf→List Lf
 | .val _,l=>l
 | .own _ _,_=>[]
 | .mv _ _,_=>[]
 | .box _ sh,l=>match l with
  | .p b 0::_=>match look ob b with | some (.box _ c)=>sh.vals ob c | _=>[]
  | _=>[]
 | .fn _ sh,l=>match l with
  | .fn _ cs::_=>sh.vals ob (cs.map fun b=>.p b 0)
  | _=>[]
 | .rcd sh,l=>sh.vals ob l
def Shs.vals (ob:List (Nat×Ob)):Shs→List Lf→List Lf
 | .nil,_=>[]
 | .cons s l,c=>s.vals ob (c.take s.w)++l.vals ob (c.drop s.w)
end
def Shs.valsA (ob:List (Nat×Ob)):Shs→List Slot→List Lf
 | .nil,_=>[]
 | .cons s l,c=>match c with
  | []=>[]
  | x::r=>(match x.cells with | some cl=>s.vals ob cl | none=>[])++l.valsA ob r
mutual
def Sh.cnt :Sh→Nat
 | .val _=>0
 | .own _ _=>1
 | .mv _ _=>1
 | .box _ l=>l.cnt+1
 | .fn _ l=>l.cnt
 | .rcd l=>l.cnt
def Shs.cnt :Shs→Nat
 | .nil=>0
 | .cons s l=>s.cnt+l.cnt
end
mutual
/-- How the rows and variables that come back are named: by their places in order. -/
def Sh.ref (n:Nat):Sh→Lf
 | .val _=>.u
 | .own _ _=>.o n
 | .mv _ _=>.o n
 | .box _ _=>.p n 0
 | .fn f l=>.fn f (l.refs n)
 | .rcd _=>.u
def Shs.refs (n:Nat):Shs→List Nat
 | .nil=>[]
 | .cons s l=>n::l.refs (n+s.cnt)
end
def nodupB :List Nat→Bool
 | []=>true
 | n::l=> !(l.any (Nat.beq n))&&nodupB l
mutual
def Ty.rows :Ty→Bool
 | .row _ _=>true
 | .st fs=>fs.rows
 | .int _=>false
 | .bool=>false
 | .str=>false
 | .err=>false
 | .any _ t=>t.rows
def Tys.rows :Tys→Bool
 | .nil=>false
 | .cons t ts=>t.rows||ts.rows
end
mutual
/-- Are there rows in it that are values? -/
def Sh.vr :Sh→Bool
 | .val t=>t.rows
 | .own _ t=>t.rows
 | .mv _ t=>t.rows
 | .box _ l=>l.vr
 | .fn _ l=>l.vr
 | .rcd l=>l.vr
def Shs.vr :Shs→Bool
 | .nil=>false
 | .cons s l=>s.vr||l.vr
end
def Shs.keep {α:Type}:Shs→List α→List α
 | .nil,_=>[]
 | .cons s l,ns=>(match s with | .mv _ _=>[] | .rcd _=>[] | s=>ns.take s.cnt)++l.keep (ns.drop s.cnt)
def Shs.refP (n:Nat):Shs→List Slot
 | .nil=>[]
 | .cons s l=>(match s with | .val _=>[] | .mv _ _=>[] | .rcd _=>[] | s=>[.lf (s.ref n)])++l.refP (n+s.cnt)
def delAll (ob:List (Nat×Ob)):List Nat→List (Nat×Ob)
 | []=>ob
 | n::l=>delAll (del ob n) l
mutual
/-- Which of the names that come back lie inside others. -/
def Sh.nest (i:Bool):Sh→List Bool
 | .val _=>[]
 | .own _ _=>[i]
 | .mv _ _=>[i]
 | .box _ l=>i::l.nest true
 | .fn _ l=>l.nest i
 | .rcd l=>l.nest i
def Shs.nest (i:Bool):Shs→List Bool
 | .nil=>[]
 | .cons s l=>s.nest i++l.nest i
end
def eqL :List Nat→List Nat→Bool
 | [],[]=>true
 | a::l,b::m=>Nat.beq a b&&eqL l m
 | _,_=>false
mutual
/-- Which of the names are variables'. -/
def Sh.bxs :Sh→List Bool
 | .val _=>[]
 | .own _ _=>[false]
 | .mv _ _=>[false]
 | .box _ l=>true::l.bxs
 | .fn _ l=>l.bxs
 | .rcd l=>l.bxs
def Shs.bxs :Shs→List Bool
 | .nil=>[]
 | .cons s l=>s.bxs++l.bxs
end
def aH {α:Type}:List Bool→List α→List α
 | true::k,a::l=>a::aH k l
 | false::k,_::l=>aH k l
 | _,_=>[]
def nstL :List Bool→List Bool→List Bool
 | n::l,b::m=>(n && !b)::nstL l m
 | _,_=>[]
def FnD.nst (D:FnD):List Bool:=if D.idn=true then nstL (D.par.inout.nest false) D.par.inout.bxs else D.par.inout.nest false
def iT1 (D:FnD) (b:List Nat):Bool:= !D.idn||eqL (aH D.par.inout.bxs b) (aH D.par.inout.bxs (D.par.keep (upto D.par.cnt)))
def renew :List Nat→List Bool→List Nat
 | n::l,true::b=>(n+1000000)::renew l b
 | n::l,_::b=>n::renew l b
 | l,[]=>l
 | [],_=>[]
def dedup (l:List Nat):List Nat→List Nat
 | []=>l
 | n::r=>if l.any (Nat.beq n)=true then dedup l r else dedup (l++[n]) r
def renewOK (s:St):List Nat→List Bool→Bool
 | n::l,true::b=>s.fresh (n+1000000)&&renewOK s l b
 | _::l,false::b=>renewOK s l b
 | [],_=>true
 | _,[]=>true
def isNil {α:Type}:List α→Bool
 | []=>true
 | _=>false
def rowNames :List Lf→List Nat
 | []=>[]
 | .o r::l=>r::rowNames l
 | .oh r _::l=>r::rowNames l
 | .ot r _ _::l=>r::rowNames l
 | _::l=>rowNames l
def Env.byF (E:Env) (f:FuncId):List (Nat×FnD):=E.fn.filter fun x=>Nat.beq x.2.fid f
theorem Env.mem_byF {E:Env} {f:FuncId} {x:Nat×FnD}:x∈E.byF f↔x∈E.fn∧x.2.fid=f:=by unfold Env.byF;rw[zF2];exact⟨fun h=>⟨h.1,sH2 h.2⟩,fun h=>⟨h.1,by rw[h.2];exact Nat.beq_refl f⟩⟩
def fits (s:St) (f:FuncId) (as:List Slot):List (Nat×FnD)→Option Nat
 | []=>none
 | (k,D)::l=>if Nat.beq D.fid f&&(D.par.takeA s.ob as).isSome=true then some k else fits s f as l
def yX (D:FnD) (s2:St) (d:Nat) (rn:List Nat) (r:(D.res.T.app D.par.inout.T).D):Option (Slot×List (Nat×Ob)):=
 match D.par.inout.mk rn (D.res.T.snd D.par.inout.T r)with
 | none=>none
 | some (_,back,_)=>
  match D.res.mkA (fE d 12) (D.res.T.fst D.par.inout.T r)with
  | none=>none
  | some (cs,new,_)=>if(new.all fun y=>s2.fresh y.1 && !(rn.any (Nat.beq y.1)))=true then
   some (match cs with | []=>.lf .u | [c]=>gS c | _=>.tp cs,back++new)else none
def nZ1 (D:FnD) (s2:St) (d:Nat) (rn:List Nat) (r:(D.res.T.app D.par.inout.T).D):Option (Slot×List (Nat×Ob)):=
 match D.par.inout.mk rn (D.res.T.snd D.par.inout.T r)with
 | none=>none
 | some (_,back,_)=>
  bif D.res.T.nilB (D.res.T.fst D.par.inout.T r)then some (.lf .np,back)else
  match D.res.mkA (fE d 12) (D.res.T.fst D.par.inout.T r)with
  | some ([_,c],new,_)=>if(new.all fun y=>s2.fresh y.1 && !(rn.any (Nat.beq y.1)))=true then some (gS c,back++new)else none
  | _=>none
def backAny (D:FnD) (s2:St) (d:Nat) (rn:List Nat) (r:(D.res.T.app D.par.inout.T).D):Option (Slot×List (Nat×Ob)):=if D.opt=true then nZ1 D s2 d rn r else yX D s2 d rn r
noncomputable def pB1 (D:FnD) (s:St) (d:Option Nat) (xs:List Operand) (as0 caps:List Slot):Option (St×D.par.T.D×((D.res.T.app D.par.inout.T).D→Option (Slot×List (Nat×Ob)))):=
 let s1:=if(D.res.vr||D.par.inout.vr)=true then s.frzAll (D.par.valsA s.ob (as0++caps))else s
 match s1.cellsOf xs with
 | none=>none
 | some as=>match D.par.takeA s1.ob (as++caps)with
  | none=>none
  | some (x,ns)=>if nodupB (ns++dedup [] (rowNames (D.par.valsA s1.ob (as++caps))))=true then
   (let bk:=D.par.keep ns
   let rn:=renew bk D.nst
   let s2:=s1.withOb (delAll s1.ob ns)
   if(nodupB rn&&renewOK s2 bk D.nst&&((!(D.res.vr||D.par.inout.vr))||isNil (rowNames (D.par.valsA s1.ob (as++caps)))))=true then
   some (s2,x,fun r=>backAny D s2 (s.id d) rn r)else none)
   else none
noncomputable def jG (E:Env) (s:St) (d:Option Nat) (f:FuncId) (xs:List Operand) (caps:List Slot):Option (St×Out E):=
 match s.cellsOf xs with
 | none=>none
 | some as0=>match look E.inl f with
  | some _=>some (s,.inl f (as0++caps))
  | none=>match fits s f (as0++caps) (E.byF f)with
   | none=>none
   | some key=>match h:look E.fn key with
    | none=>none
    | some D=>if Nat.beq D.fid f=true then(match pB1 D s d xs as0 caps with
     | some (s2,x,k)=>some (s2,if D.opt=true then .callN key (cast (by rw[Env.argT,h]) x) (fun r=>k (cast (by rw[Env.resT,h]) r)) (E.resT key).optQ else .call key (cast (by rw[Env.argT,h]) x) fun r=>k (cast (by rw[Env.resT,h]) r))
     | none=>none)else none
mutual
def Ty.zl :Ty→List Lf
 | .int k=>[.v (.int k) (0:Int)]
 | .bool=>[.v .bool false]
 | .str=>[.v .str ByteArray.empty]
 | .err=>[.ni]
 | .st fs=>fs.zl
 | .row _ _=>[.nl]
 | .any _ _=>[.u]
def Tys.zl :Tys→List Lf
 | .nil=>[]
 | .cons t ts=>t.zl++ts.zl
end
def Ty.noIf :Ty→Bool
 | .err=>false
 | .any _ _=>false
 | _=>true
def agOK :Slot→Ty→Bool
 | .ag _,t=>t.isSt
 | .lf _,t=> !t.isSt
 | _,_=>false
def Env.conc (E:Env) (U:TypeId):Bool:=match E.t U with | some u=>u.noIf | none=>false
def Env.cell (E:Env) (T:TypeId):Option (Bool×Nat):=match E.t T with
 | some t=>some (t.isSt,t.sz)
 | none=>match look E.one T with | some _=>some (false,1) | none=>none
def Env.isStr (E:Env) (T:TypeId):Bool:=match E.t T with | some .str=>true | _=>false
def Env.isErr (E:Env) (T:TypeId):Bool:=match E.t T with | some .err=>true | _=>false
def Env.isPtr (E:Env) (T:TypeId):Bool:=match look E.one T with | some b=>b | _=>false
def Env.has (E:Env) (T:TypeId):Bool:=match E.cell T with | some _=>true | _=>false
def rK1 (E:Env) (T:TypeId) (y:Operand):Lf→Bool
 | .v .bool _=>(match E.t T with | some .bool=>true | _=>false)
 | .v .err _=>E.isErr T&&(match y with | .const _=>true | _=>false)
 | .p _ _=>E.isPtr T
 | .np=>E.isPtr T
 | _=>true
def tZ1 (E:Env) (Ts:List TypeId):Lf→Bool
 | .v .str _=>(match Ts with | [T]=>E.isStr T | _=>false)
 | _=>(match Ts with | [T]=>(match E.rowT T with | some _=>true | none=>false) | _=>false)
def eZ (s:ByteArray) (lo hi:Option Int):List Bool×Lf:=
 match lo,hi with
 | none,none=>([],.v .str s)
 | none,some h=>([decide (0≤h),decide (h≤s.size)],.v .str (s.extract 0 h.toNat:ByteArray))
 | some l,none=>([decide (0≤l),decide (l≤s.size)],.v .str (s.extract l.toNat s.size:ByteArray))
 | some l,some h=>([decide (0≤l),decide (l≤h),decide (h≤s.size)],.v .str (s.extract l.toNat h.toNat:ByteArray))
def lT (e:TypeId) (t:Ty) (xs:List t.D) (lo hi:Option Int):List Bool×Lf:=
 match lo,hi with
 | none,none=>([],.v (.row e t) xs)
 | none,some h=>([decide (0≤h),decide (h≤xs.length)],.v (.row e t) (xs.take h.toNat:List t.D))
 | some l,none=>([decide (0≤l),decide (l≤xs.length)],.v (.row e t) (xs.drop l.toNat:List t.D))
 | some l,some h=>([decide (0≤l),decide (l≤h),decide (h≤xs.length)],.v (.row e t) ((xs.take h.toNat).drop l.toNat:List t.D))
def mm (mx:Bool) (x y:Int):Int:=bif mx then(if y>x then y else x)else(if y<x then y else x)
def uS (mx:Bool):List Slot→Option (IntKind×Int)
 | .lf (.v (.int k) x)::r=>go k x r
 | _=>none
where go (k:IntKind) (x:Int):List Slot→Option (IntKind×Int)
 | []=>some (k,x)
 | .lf (.v (.int _) y)::r=>go k (mm mx x y) r
 | _::_=>none
def negI (k:IntKind) (n:Int):Lf:=.v (.int k) (k.wrap (0-n):Int)
def notB (b:Bool):Lf:=.v .bool (!b:Bool)
def jX1 (n c:Int):List Bool:=[decide (0≤n),decide (n=c),decide (n≤17179869184)]
def nK1 (t:Ty) (n:Int):List t.D:=List.replicate n.toNat t.z
def gH1 :List Slot→Option (List Nat)
 | []=>some []
 | .lf (.p b 0)::l=>match gH1 l with | some r=>some (b::r) | none=>none
 | _::_=>none
def aD1 (ag:Bool) (n:Nat) (l:List Lf):Option Slot:=if Nat.beq (l.take n).length n=true then zQ1 ag (l.take n)else none
def jA2 (e:TypeId) (t:Ty):Lf→Option (List t.D)
 | .v .str z=>cD1 (.row e (.int .u8)) (.row e t) (xG z)
 | _=>none
def srcL (E:Env) (ob:List (Nat×Ob)) (e:TypeId) (t:Ty) (U:TypeId) (b:Lf):Option (List t.D):=match E.rowT U with
 | some (e',t')=>(match b.list ob e' t' with | some z=>cD1 (.row e' t') (.row e t) z | none=>none)
 | none=>if E.isStr U=true then jA2 e t b else none
noncomputable def step (E:Env) (s:St) (o:Oper):Option (St×Out E):=
 let d:=s.id o.dst
 let go (g:List Bool) (x:Slot):Option (St×Out E):=some (s,.go g x s.ob)
 let lf (g:List Bool) (x:Lf):Option (St×Out E):=some (s,.go g (.lf x) s.ob)
 match o.op with
 | .move x | .assign x=>match s.opnd x with | some y=>go [] y | none=>none
 | .pick c a b=>match s.opnd c,s.opnd a,s.opnd b with
  | some (.lf (.v .bool c)),some x,some y=>some (s,.br c x y)
  | _,_,_=>none
 | .binOp op T x y _=>match s.opnd x,s.opnd y with
  | some (.lf a),some (.lf b)=>if rK1 E T y a=true then(match kY1 op a b with | some (g,c)=>lf g c | none=>none)else none
  | some (.ag l),some (.ag m)=>match E.t T with
   | some (.st fs)=>if E.eqs.any (Nat.beq T)=true then(match fs.pack l,fs.pack m with
    | some (x,[]),some (y,[])=>(match op with
     | .eql=>lf [] (.v .bool (fs.eqD x y:Bool))
     | .neq=>lf [] (.v .bool (!fs.eqD x y:Bool))
     | _=>none)
    | _,_=>none)else none
   | _=>none
  | _,_=>none
 | .unOp op _ x=>match op,s.opnd x with
  | .neg,some (.lf (.v (.int k) n))=>lf [] (negI k n)
  | .not,some (.lf (.v .bool b))=>lf [] (notB b)
  | _,_=>none
 | .convert a b x=>match s.opnd x,E.t a,E.t b with
  | some (.lf (.v (.int _) n)),some _,some (.int k)=>lf [] (.v (.int k) (k.wrap n:Int))
  | some (.lf c),some (.row e (.int .u8)),some .str=>match c.list s.ob e (.int .u8)with
   | some xs=>lf [] (.v .str (aU1 xs))
   | none=>none
  | some (.lf (.v .str z)),some _,some (.row e (.int .u8))=>lf [] (.v (.row e (.int .u8)) (xG z))
  | some (.lf (.o r)),some (.row _ (.int .u8)),some (.row _ (.int .u8))=>if Nat.beq a b=true then
   (match look s.ob r with
   | some (.row e t xs)=>some (s.frz r,.go [decide (0<xs.length)] (.lf (.v (.row e t) xs)) (s.frz r).ob)
   | _=>none)else none
  | _,_,_=>none
 | .extract x i=>match s.opnd x with
  | some (.tp l)=>match l[i]? with | some c=>go [] (gS c) | none=>none
  | _=>none
 | .field T x f=>match s.opnd x,E.t T with
  | some (.ag l),some (.st fs)=>match fs.get f with
   | some t=>match aD1 t.isSt t.sz (l.drop (fs.off f))with | some y=>go [] y | none=>none
   | none=>none
  | _,_=>none
 | .build T ps=>match E.t T with
  | some (.st fs)=>match tS fs s fs.zl ps.toList with | some l=>go [] (.ag l) | none=>none
  | _=>none
 | .alloc T=>match E.t T with
  | some t=>if s.fresh d=true then some (s,.go [] (.lf (.p d 0)) (put s.ob d (.box T t.zl)))else none
  | none=>if E.has T=true&&s.fresh d=true then some (s,.go [] (.lf (.p d 0)) (put s.ob d (.box T [.u])))else none
 | .box T x=>match s.opnd x with
  | some y=>match y.cells with
   | some c=>match E.cell T with
    | some (_,n)=>if Nat.beq c.length n=true&&s.fresh d=true then some (s,.go [] (.lf (.p d 0)) (put s.ob d (.box T c)))else none
    | none=>none
   | none=>none
  | none=>none
 | .fieldAddr T x f=>match E.t T with
  | some (.st fs)=>match fs.get f with
   | some t=>if Nat.ble 1 t.sz=true then(match s.opnd x with
    | some (.lf (.p b off))=>lf [] (.p b (off+fs.off f))
    | some (.q l)=>go [] (.q (l.drop (fs.off f)))
    | some (.e r i off)=>(match look s.ob r with | some (.row ..)=>go [] (.e r i (off+fs.off f)) | _=>none)
    | _=>none)else none
   | none=>none
  | _=>none
 | .load T x=>match E.cell T with
  | none=>none
  | some (ag,n)=>match s.opnd x with
  | some (.lf (.p b off))=>match look s.ob b with
   | some (.box _ c)=>match aD1 ag n (c.drop off)with | some y=>go [] y | none=>none
   | _=>none
  | some (.q l)=>match aD1 ag n l with | some y=>go [] y | none=>none
  | some (.e r i off)=>match look s.ob r with
   | some (.row _ t xs)=>match aD1 ag n ((t.leaves (xs.getD i.toNat t.z)).drop off)with | some y=>go [] y | none=>none
   | _=>none
  | _=>none
 | .store T x y=>match E.cell T with
  | none=>none
  | some (_,n)=>match s.opnd x,s.opnd y with
  | some (.lf (.p b off)),some z=>match look s.ob b,z.cells with
   | some (.box U c),some l=>if Nat.beq l.length n=true then(match vJ1 c off l with
    | some c'=>some (s,.go [] (.lf .u) (put s.ob b (.box U c')))
    | none=>none)else none
   | _,_=>none
  | some (.e r i off),some z=>match look s.ob r,z.cells with
   | some (.row e t xs),some l=>if Nat.beq l.length n=true then(match vJ1 (t.leaves (xs.getD i.toNat t.z)) off l with
    | some c'=>match t.pack c' with
     | some (w,_)=>some (s,.go [] (.lf .u) (put s.ob r (.row e t (xs.set i.toNat w))))
     | none=>none
    | none=>none)else none
   | _,_=>none
  | _,_=>none
 | .nilCheck x=>match s.opnd x with
  | some (.lf (.p b off))=>lf [] (.p b off)
  | some (.lf (.fn f cs))=>if Nat.blt f ifB=true then lf [] (.fn f cs)else none
  | _=>none
 | .indexAddr T x i=>match E.rowT T,s.opnd x,s.opnd i with
  | some (e,t),some (.lf c),some (.lf ci)=>match c.list s.ob e t,ci.int with
   | some xs,some (_,n)=>
    let g:=[decide (0≤n),decide (n<xs.length)]
    match c with
    | .o r=>go g (.e r n 0)
    | .ot r l _=>go g (.e r (l+n) 0)
    | .v _ _=>go g (.q (t.leaves (xs.getD n.toNat t.z)))
    | _=>none
   | _,_=>none
  | _,_,_=>none
 | .index T x i=>match s.opnd x,s.opnd i with
  | some (.lf (.v .str z)),some (.lf ci)=>match ci.int,E.isStr T with
   | some (_,n),true=>lf [decide (0≤n),decide (n<(z:ByteArray).size)] (.v (.int .u8) (bt z n))
   | _,_=>none
  | _,_=>none
 | .slice T x lo hi none=>match s.opnd x,mL s lo,mL s hi with
  | some (.lf (.v .str z)),some l,some h=>if E.isStr T=true then(match eZ z l h with | (g,c)=>lf g c)else none
  | some (.lf c),some l,some h=>match E.rowT T with
   | some (e,t)=>match c.list s.ob e t with
    | some xs=>match lT e t xs l h,c,l,h with
     | (g,_),.o r,none,some h=>lf g (.oh r h)
     | (g,_),.o r,some l,none=>lf g (.ot r l t.sz)
     | (g,y),.v _ _,_,_=>lf g y
     | (g,y),.nl,_,_=>lf g y
     | (g,y),.o r,_,_=>some (s.frz r,.go g (.lf y) (s.frz r).ob)
     | _,_,_,_=>none
    | none=>none
   | none=>none
  | _,_,_=>none
 | .makeSlice T n c=>match E.rowT T,s.opnd n,s.opnd c with
  | some (e,t),some (.lf (.v (.int .i64) n)),some (.lf (.v (.int .i64) c))=>if s.fresh d=true then
   some (s,.go (jX1 n c) (.lf (.o d)) (put s.ob d (.row e t (nK1 t n))))else none
  | _,_,_=>none
 | .buildSlice T n ps=>if E.litO o=true then(match E.rowT T with
  | some (e,t)=>match mQ t s 0 ps.toList with
   | some xs=>if Nat.beq n ps.size=true&&Nat.ble n 1000&&Nat.ble t.sz 1000 then lf [] (.v (.row e t) xs)else none
   | none=>none
  | none=>none)else match E.rowT T with
  | some (e,t)=>match mQ t (s.frzAll (pH s ps.toList)) 0 ps.toList with
   | some xs=>if Nat.beq n ps.size=true&&(s.frzAll (pH s ps.toList)).fresh d=true&&Nat.ble n 1000&&Nat.ble t.sz 1000 then
    some (s.frzAll (pH s ps.toList),.go [] (.lf (.o d)) (put (s.frzAll (pH s ps.toList)).ob d (.row e t xs)))else none
   | none=>none
  | none=>none
 | .makeInterface T x=>match s.opnd x with
  | some (.lf (.p b 0))=>if E.isPtr T=true then lf [] (.fn (ifB+T) [b])else none
  | some y=>match y.cells,E.t T with
   | some l,some t=>if t.noIf&&agOK y t then(match t.pack l with
    | some (v,r)=>if isNil r=true then lf [] (.v (.any T t) v)else none
    | none=>none)else none
   | _,_=>none
  | none=>none
 | .typeAssert x _ U true=>match s.opnd x with
  | some (.lf (.v (.any T t) v))=>if Nat.beq T U&&E.conc U then some (s,.go [] (.tp [(t.isSt,t.leaves v),(false,[.v .bool true])]) s.ob)else none
  | _=>none
 | .makeFunc (.func f) first cs=>if first.isEmpty=true then(match s.cellsOf cs.toList with
  | some l=>match gH1 l with
   | some bs=>if Nat.blt f ifB=true then lf [] (.fn f bs)else none
   | none=>none
  | none=>none)else none
 | .call c=>match c.callee with
  | .builtin .len=>match c.args.toList with
   | [x]=>match s.opnd x with
    | some (.lf y)=>if tZ1 E c.argTypes.toList y=true then(match y.len s.ob with | some n=>lf [] (.v (.int .i64) n) | none=>none)else none
    | _=>none
   | _=>none
  | .builtin .min=>match s.cellsOf c.args.toList with
   | some l=>match uS false l with | some (k,n)=>lf [] (.v (.int k) n) | none=>none
   | none=>none
  | .builtin .max=>match s.cellsOf c.args.toList with
   | some l=>match uS true l with | some (k,n)=>lf [] (.v (.int k) n) | none=>none
   | none=>none
  | .builtin .clear=>match c.args.toList,c.argTypes.toList with
   | [x],[T]=>match E.rowT T,s.opnd x with
    | some (e,t),some (.lf (.ot r l z))=>if Nat.beq z t.sz=true then(match iK s.ob e t r with
     | some xs=>some (s,.go [] (.lf .u) (put s.ob r (.row e t (xs.take l.toNat++List.replicate (xs.length-l.toNat) t.z))))
     | none=>none)else none
    | _,_=>none
   | _,_=>none
  | .builtin .append=>match c.args.toList,c.argTypes.toList with
   | [x,y],[T,U]=>match E.rowT T,s.opnd x,s.opnd y with
    | some (e,t),some (.lf a),some (.lf b)=>match a.list s.ob e t with
     | some xs=>
      match srcL E s.ob e t U b with
      | some ys=>match a with
       | .nl=>if s.fresh d=true then some (s,appd E e t xs ys s.ob d)else none
       | .o r=>if s.fresh d=true then some (s,appd E e t xs ys (del s.ob r) d)else none
       | .oh r _=>if s.fresh d=true then some (s,appd E e t xs ys (del s.ob r) d)else none
       | _=>none
      | none=>none
     | none=>none
    | _,_,_=>none
   | _,_=>none
  | .value (.func f)=>jG E s o.dst f c.args.toList []
  | .value x=>match s.opnd x with
   | some (.lf (.fn f cs))=>if Nat.blt f ifB=true then jG E s o.dst f c.args.toList (cs.map fun b=>.lf (.p b 0))else none
   | _=>none
  | _=>none
 | _=>none
def iQ {R:Type} (g:List Bool) (x:Option R):Option R:=match g with | []=>x | b::l=>bif b then iQ l x else none
abbrev Ev (E:Env):=(f:Nat)→(E.argT f).D→Option (E.resT f).D
def cH1 (r:Nat):Operand→Bool
 | .tmp t=> !(Nat.beq t r)
 | _=>true
def wV1 (r:Nat):Option Nat→Bool
 | some d=> !(Nat.beq d r)
 | none=>true
noncomputable def invk (E:Env) (s:St) (o:Oper):Option (Nat×FuncId×St×List Operand):=match o.op with
 | .call c=>match c.callee with
  | .invoke (.tmp r) name=>match s.get r with
   | .lf (.fn W [b])=>if Nat.ble ifB W&&wV1 r o.dst then
    (match E.meths.find? fun x=>Nat.beq x.1 (W-ifB)&&x.2.1==name with
     | some (_,_,f,none)=>if c.args.all (cH1 r)=true then some (r,f,s.set r (.lf (.p b 0)),.tmp r::c.args.toList)else none
     | some (_,_,f,some U)=>(match look s.ob b,E.cell U with
      | some (.box _ l),some (ag,n)=>(match aD1 ag n l with
       | some y=>if c.args.all (cH1 r)=true then some (r,f,s.set r y,.tmp r::c.args.toList)else none
       | none=>none)
      | _,_=>none)
     | none=>none)else none
   | _=>none
  | _=>none
 | _=>none
noncomputable def Out.cps {E:Env} {R:Type} (ev:Ev E) (inl:FuncId→List Slot→St→(Slot→List (Nat×Ob)→Option R)→Option R) (s:St) (d:Option Nat) (K:St→Option R):Out E→Option R
 | .go g x ob=>iQ g (K ((s.withOb ob).setd d x))
 | .br c x y=>bif c then K (s.setd d x)else K (s.setd d y)
 | .call f x k=>(ev f x).bind fun r=>match k r with
  | some (y,l)=>K ((s.withOb (eI s.ob l)).setd d y)
  | none=>none
 | .callN f x k q=>(ev f x).bind fun r=>
  bif(q r).1 then(match k ((q r).2 true)with | some (y,l)=>K ((s.withOb (eI s.ob l)).setd d y) | none=>none)
  else(match k ((q r).2 false)with | some (y,l)=>K ((s.withOb (eI s.ob l)).setd d y) | none=>none)
 | .inl f x=>inl f x s fun y ob=>K ((s.withOb ob).setd d y)
def selK {R:Type}:List (ByteArray×Nat)→ByteArray→(Option Nat→Option R)→Option R
 | [],_,K=>K none
 | (c,off)::l,x,K=>bif(x.toList==c.toList)then K (some off)else selK l x K
noncomputable def selC (E:Env) (s:St) (o:Oper):Option (Nat×ByteArray×List (ByteArray×Nat)):=match o.op with
 | .call c=>match c.callee with
  | .value (.func f)=>match look E.sels f with
   | some l=>match c.args.toList with
    | [p,x]=>match s.opnd p,s.opnd x with
     | some (.lf (.p b 0)),some (.lf (.v .str y))=>some (b,y,l)
     | _,_=>none
    | _=>none
   | none=>none
  | _=>none
 | _=>none
def uW1 (b:Nat) (q:Option Nat):Slot:=match q with | some off=>.lf (.p b off) | none=>.lf .np
noncomputable def yW {R:Type} (x y:Option R):Option R:=@ite (Option R) (x=y) (Classical.propDecidable _) x none
noncomputable def nilC (E:Env) (s:St) (o:Oper):Option (Bool×Bool):=match o.op with
 | .binOp op T x y _=>match s.opnd x,s.opnd y,E.t T with
  | some (.lf (.v (.row _ _) xs)),some (.lf .nl),some (.row _ _)=>(match op with
   | .eql=>some (decide (0<xs.length),true)
   | .neq=>some (decide (0<xs.length),false)
   | _=>none)
  | some (.lf .nl),some (.lf .nl),some (.row _ _)=>(match op with
   | .eql=>some (true,false)
   | .neq=>some (true,true)
   | _=>none)
  | _,_,_=>none
 | _=>none
noncomputable def nilK {R:Type} (g e:Bool) (K:Bool→Option R):Option R:=bif g then K (!e)else yW (K e) (K (!e))
noncomputable def vM (E:Env) {R:Type} (ev:Ev E) (inl:FuncId→List Slot→St→(Slot→List (Nat×Ob)→Option R)→Option R) (s:St) (o:Oper) (K:St→Option R):Option R:=
 match step E s o with
 | some (s1,x)=>if Nat.beq s1.b s.b=true then x.cps ev inl s1 o.dst K else none
 | none=>match invk E s o with
  | some (r,f,s0,xs)=>match jG E s0 o.dst f xs []with
   | some (s1,x)=>if Nat.beq s1.b s.b=true then x.cps ev inl s1 o.dst (fun s'=>K (s'.set r (.lf .u)))else none
   | none=>none
  | none=>match selC E s o with
   | some (b,y,l)=>selK l y fun q=>K (s.setd o.dst (uW1 b q))
   | none=>match nilC E s o with
    | some (g,e)=>nilK g e fun b=>K (s.setd o.dst (.lf (.v .bool b)))
    | none=>none
noncomputable def opsK (E:Env) {R:Type} (ev:Ev E) (inl:FuncId→List Slot→St→(Slot→List (Nat×Ob)→Option R)→Option R) (ops:Array Oper):List Oper→St→(St→Option R)→Option R
 | [],s,K=>K s
 | o::l,s,K=>match o.guard with
  | none=>vM E ev inl s o fun s'=>opsK E ev inl ops l s' K
  | some (j,want)=>match(ops[j]?).bind (·.dst)with
   | some g=>match s.get g with
    | .lf .un=>opsK E ev inl ops l (s.setd o.dst (.lf .un)) K
    | .lf (.v .bool c)=>
     bif c then
      (bif want then vM E ev inl (s.set g (.lf (.v .bool true))) o fun s''=>opsK E ev inl ops l s'' K
       else opsK E ev inl ops l ((s.set g (.lf (.v .bool true))).setd o.dst (.lf .un)) K)
     else
      (bif want then opsK E ev inl ops l ((s.set g (.lf (.v .bool false))).setd o.dst (.lf .un)) K
       else vM E ev inl (s.set g (.lf (.v .bool false))) o fun s''=>opsK E ev inl ops l s'' K)
    | _=>none
   | none=>none
def Lf.nms :Lf→List Nat
 | .o r=>[r]
 | .oh r _=>[r]
 | .ot r _ _=>[r]
 | .p b _=>[b]
 | .fn _ cs=>cs
 | _=>[]
def Slot.nms :Slot→List Nat
 | .lf c=>c.nms
 | .ag l=>l.flatMap Lf.nms
 | .tp l=>l.flatMap fun x=>x.2.flatMap Lf.nms
 | .q l=>l.flatMap Lf.nms
 | .e r _ _=>[r]
noncomputable def St.opNms (s:St) (o:Oper):List Nat:=o.op.operands.toList.flatMap fun y=>match s.opnd y with | some x=>x.nms | none=>[]
noncomputable def St.wrNms (s:St) (o:Oper):List Nat:=match o.op with
 | .call c=>match c.callee,c.args.toList with
  | .builtin .append,x::_=>(match s.opnd x with | some y=>y.nms | none=>[])
  | _,_=>s.opNms o
 | _=>s.opNms o
noncomputable def St.oldNms (s:St) (d:Option Nat):List Nat:=match d with | some i=>(s.get i).nms | none=>[]
structure Ent where
 w:Bool
 nm : List Nat                         -- whose content is read, or changed
 mn : List Nat                         -- who is spoken of by what a reading leaves; by whom a writing asks for freshness
def zG1 :Op→Bool
 | .move _ | .assign _ | .pick .. =>true
 | _=>false
def rOp :Op→Bool
 | .move _ | .assign _ | .pick .. | .binOp .. | .unOp .. | .convert .. | .extract .. | .field .. | .build .. | .fieldAddr .. | .load .. | .nilCheck _ | .indexAddr .. | .index .. | .slice .. | .makeFunc .. | .makeInterface .. | .typeAssert .. =>true
 | .call c=>match c.callee with
  | .builtin .len=>true
  | .builtin .min=>true
  | .builtin .max=>true
  | _=>false
 | _=>false
noncomputable def St.callee (s:St) (o:Oper):Option (FuncId×List Slot):=match o.op with
 | .call c=>match c.callee with
  | .value (.func f)=>match s.cellsOf c.args.toList with | some as=>some (f,as) | none=>none
  | .value x=>match s.opnd x with
   | some (.lf (.fn f cs))=>match s.cellsOf c.args.toList with | some as=>some (f,as++cs.map fun b=>.lf (.p b 0)) | none=>none
   | _=>none
  | _=>none
 | _=>none
noncomputable def mV (E:Env) (s:St) (o:Oper) (r:Bool):Bool:=match s.callee o with
 | some (f,as)=>(E.byF f).all fun x=>(isNil (rowNames (x.2.par.valsA s.ob as)) || !(x.2.res.vr||x.2.par.inout.vr))&&(!r||Nat.beq x.2.par.cnt 0)
 | none=>false
def xS (ob ob':List (Nat×Ob)):List Nat:=(ob.map (·.1)).filter fun n=>match look ob' n with | some _=>false | none=>true
def oN {α β:Type}:List α→List β→Bool
 | [],[]=>true
 | _::l,_::m=>oN l m
 | _,_=>false
noncomputable def sR (E:Env) {R:Type} (ev:Ev E) (s:St) (o:Oper) (K:St→Ent→Option R):Option R:=
 match step E s o with
 | some (s1,x)=>if Nat.beq s1.b s.b=true then(match x with
  | .go g x ob=>if oN s1.ob s.ob=true then
   iQ g (K ((s1.withOb ob).setd o.dst x) (if(rOp o.op||E.litO o)=true then⟨false,if zG1 o.op=true then []else s.opNms o,x.nms++s.oldNms o.dst⟩else⟨true,s.wrNms o++fE (s.id o.dst) 12,fE (s.id o.dst) 12⟩))else none
  | .br c x y=>bif c then K (s1.setd o.dst x) ⟨false,[],x.nms++s.oldNms o.dst⟩else K (s1.setd o.dst y) ⟨false,[],y.nms++s.oldNms o.dst⟩
  | .call f x k=>if mV E s o false=true then
   (ev f x).bind fun r=>match k r with
    | some (y,l)=>K ((s1.withOb (eI s1.ob l)).setd o.dst y)
     (if(isNil l&&oN s1.ob s.ob&&mV E s o true)=true then⟨false,s.opNms o,y.nms++s.oldNms o.dst⟩else⟨true,s.opNms o++xS s.ob s1.ob++l.map (·.1)++fE (s.id o.dst) 12,l.map (·.1)++fE (s.id o.dst) 12⟩)
    | none=>none else none
  | .callN _ _ _ _=>none
  | .inl _ _=>none)else none
 | none=>none
noncomputable def opE (E:Env) {R:Type} (ev:Ev E) (ops:Array Oper) (o:Oper) (s:St) (K:St→Ent→Option R):Option R:=
 match o.guard with
 | none=>sR E ev s o K
 | some (j,want)=>match(ops[j]?).bind (·.dst)with
  | some g=>match s.get g with
   | .lf .un=>K (s.setd o.dst (.lf .un)) ⟨false,[],s.oldNms o.dst⟩
   | .lf (.v .bool c)=>
    bif c then
     (bif want then sR E ev (s.set g (.lf (.v .bool true))) o K
      else K ((s.set g (.lf (.v .bool true))).setd o.dst (.lf .un)) ⟨false,[],s.oldNms o.dst⟩)
    else
     (bif want then K ((s.set g (.lf (.v .bool false))).setd o.dst (.lf .un)) ⟨false,[],s.oldNms o.dst⟩
      else sR E ev (s.set g (.lf (.v .bool false))) o K)
   | _=>none
  | none=>none
def ancM (acc:List Nat):List Edge→Nat
 | []=>0
 | e::l=>(if Region.binds .any e=true then 2 ^ e.on ||| acc.getD e.on 0 else 0) ||| ancM acc l
def wU (a b:Ent):Bool:=(!a.w && !b.w)||(!(a.w&&b.w)&&(a.nm.all fun n=> !(b.nm.any (Nat.beq n)))&&a.mn.all fun n=> !(b.mn.any (Nat.beq n)))
def zE1 (ops:Array Oper) (o:Oper) (m:Nat) (e:Ent):List (Nat×Oper×Ent)→Bool
 | []=>true
 | (j,o',e')::l=>(m.testBit j||(wU e' e&&Oper.apart ops o' o))&&zE1 ops o m e l
def mR (i:Nat):List Edge→Bool
 | []=>true
 | e::l=>(!(Region.binds .any e)||Nat.blt e.on i)&&mR i l
noncomputable def kC1 (E:Env) {R:Type} (ev:Ev E) (ops:Array Oper):List Oper→List Nat→St→List (Nat×Oper×Ent)→(St→Option R)→Option R
 | [],_,s,_,K=>K s
 | o::l,acc,s,lg,K=>if mR acc.length o.after.toList=true then
   opE E ev ops o s fun s' e=>if zE1 ops o (ancM acc o.after.toList) e lg=true then kC1 E ev ops l (acc++[ancM acc o.after.toList]) s' ((acc.length,o,e)::lg) K else none
  else none
def aI1 (ops:Array Oper):List Oper→List Nat→List (Nat×Oper)→Bool
 | [],_,_=>true
 | o::l,acc,pv=>mR acc.length o.after.toList&&(pv.all fun x=>(ancM acc o.after.toList).testBit x.1||Oper.apart ops x.2 o)&&aI1 ops l (acc++[ancM acc o.after.toList]) ((acc.length,o)::pv)
def lZ1 (m:Nat) (e:Ent) (hw:Bool) (lg:List (Nat×Oper×Ent)):Bool:=(!e.w && !hw)||lg.all fun x=>m.testBit x.1||wU x.2.2 e
noncomputable def fG1 (E:Env) {R:Type} (ev:Ev E) (ops:Array Oper):List Oper→List Nat→St→List (Nat×Oper×Ent)→Bool→(St→Option R)→Option R
 | [],_,s,_,_,K=>K s
 | o::l,acc,s,lg,hw,K=>
   opE E ev ops o s fun s' e=>if lZ1 (ancM acc o.after.toList) e hw lg=true then fG1 E ev ops l (acc++[ancM acc o.after.toList]) s' ((acc.length,o,e)::lg) (hw||e.w) K else none
noncomputable def jG1 (E:Env) {R:Type} (ev:Ev E) (ops:Array Oper) (s:St) (K:St→Option R):Option R:=
 if aI1 ops ops.toList [] []=true then fG1 E ev ops ops.toList [] s [] false K else none
inductive It where
 | c (x:Code) (a:Ann)
 | endB (id:Nat)
def Ann.l :Ann→Ann
 | .two a _=>a
 | .no=>.no
 | .at_ l k a=>.at_ l k a
def Ann.r :Ann→Ann
 | .two _ b=>b
 | .no=>.no
 | .at_ _ _ _=>.no
def Ann.wf :Ann→Bool
 | .no=>true
 | .two a b=>a.wf&&b.wf
 | .at_ _ _ a=>(match a with | .at_ _ _ _=>false | _=>true)&&a.wf
def vW (id:Nat):List It→Option (List It)
 | []=>none
 | .endB j::l=>if Nat.beq j id=true then some l else vW id l
 | _::l=>vW id l
noncomputable def prep (s:St) (n:Nat) (i:Nat):Keep→Option St
 | .as=>some s
 | .frz=>match(s.get i).cells with | some l=>some (s.frzAll l) | none=>none
 | .val t=>match(s.get i)with
  | .lf c=>match(s.frzAll [c]).get i with
   | .lf c'=>match c'.as t with | some x=>some ((s.frzAll [c]).set i (.lf (.v t x))) | none=>none
   | _=>none
  | _=>none
 | .own e t=>match s.get i with
  | .lf .nl=>if s.fresh n=true then some ((s.withOb (put s.ob n (.row e t []))).set i (.lf (.o n)))else none
  | .lf (.o _)=>some s
  | .lf (.oh r h)=>match iK s.ob e t r with
   | some xs=>if s.fresh n=true then some ((s.withOb (put (del s.ob r) n (.row e t (xs.take h.toNat)))).set i (.lf (.o n)))else none
   | none=>none
  | _=>none
 | .bown e t j=>match s.get i with
  | .lf (.p b 0)=>match look s.ob b with
   | some (.box T l)=>match l[j]? with
    | some .nl=>if(s.fresh n && !(Nat.beq n b))=true then some (s.withOb (put (put s.ob n (.row e t [])) b (.box T (l.set j (.o n)))))else none
    | some (.o _)=>some s
    | some (.oh r h)=>(match iK s.ob e t r with
     | some xs=>if(s.fresh n && !(Nat.beq n b))=true then some (s.withOb (put (put (del s.ob r) n (.row e t (xs.take h.toNat))) b (.box T (l.set j (.o n)))))else none
     | none=>none)
    | _=>none
   | _=>none
  | .lf .np=>some s
  | _=>none
noncomputable def gN1 (s:St) (n:Nat):List (Nat×Keep)→Option St
 | []=>some s
 | (i,k)::l=>match prep s n i k with | some s'=>gN1 s' (n+1) l | none=>none
def zT (ob:List (Nat×Ob)):Nat→List Lf→List Nat
 | 0,_=>[]
 | n+1,l=>l.flatMap fun c=>match c with
  | .o r=>[r]
  | .oh r _=>[r]
  | .ot r _ _=>[r]
  | .p b _=>b::(match look ob b with | some (.box _ c)=>zT ob n c | _=>[])
  | .fn _ cs=>cs.flatMap fun b=>b::(match look ob b with | some (.box _ c)=>zT ob n c | _=>[])
  | _=>[]
def place (n:Nat):List Nat→Nat→Option Nat
 | [],_=>none
 | m::l,j=>if Nat.beq m n=true then some j else place n l (j+1)
def fW (ρ:List Nat):List Nat→Option (List Nat)
 | []=>some []
 | b::l=>match place b ρ 0,fW ρ l with | some j,some r=>some (j::r) | _,_=>none
def Lf.ren (ρ:List Nat):Lf→Lf
 | .o r=>match place r ρ 0 with | some j=>.o j | none=>.u
 | .oh r h=>match place r ρ 0 with | some j=>.oh j h | none=>.u
 | .ot r l z=>match place r ρ 0 with | some j=>.ot j l z | none=>.u
 | .p b off=>match place b ρ 0 with | some j=>.p j off | none=>.u
 | .fn f cs=>match fW ρ cs with | some l=>.fn f l | none=>.u
 | c=>c
def Slot.ren (ρ:List Nat):Slot→Slot
 | .e r i off=>match place r ρ 0 with | some j=>.e j i off | none=>.lf .u
 | s=>s.map (Lf.ren ρ)
def kB1 (ρ live:List Nat):Nat→List Slot→List Slot
 | _,[]=>[]
 | n,s::l=>(if live.any (Nat.beq n)=true then s.ren ρ else .lf .u)::kB1 ρ live (n+1) l
def lJ1 (ob:List (Nat×Ob)) (ρ:List Nat):Nat→List Nat→List (Nat×Ob)
 | _,[]=>[]
 | j,n::l=>match look ob n with
  | some o=>(j,o.map (Lf.ren ρ))::lJ1 ob ρ (j+1) l
  | none=>lJ1 ob ρ (j+1) l
noncomputable def St.lfs (s:St) (live:List Nat):List Lf:=live.flatMap fun i=>match s.get i with
 | .lf c=>[c]
 | .ag l=>l
 | .tp l=>l.flatMap (·.2)
 | .q _=>[]
 | .e r _ _=>[.o r]
def uD1 (ob:List (Nat×Ob)) (n:Nat):Bool:=(match look ob n with | some (.row _ _ _)=>true | _=>false)&&ob.any fun x=>x.2.names n
def mS (ob:List (Nat×Ob)) (m:Nat):List Nat:=(upto m).map fun n=>if uD1 ob n=true then 5000000+n else n
noncomputable def St.canon (s:St) (m:Nat) (live:List Nat):St:=
 let ρ:=dedup (mS s.ob m) (zT s.ob 4 (s.lfs live))
 ⟨kB1 ρ live 0 s.sl,lJ1 s.ob ρ 0 ρ,s.b⟩
noncomputable def qB1 (s:St) (m:Nat) (k:List (Nat×Keep)):Option St:=
 match gN1 s 2000000 k with
 | some s'=>if((upto m).all fun n=> !(uD1 s'.ob n)||s'.fresh (5000000+n))=true then some (s'.canon m (k.map (·.1)))else none
 | none=>none
noncomputable def nM (E:Env) (s:St):List ResultVar→Option (List Slot)
 | []=>some []
 | .tmp t::l=>match nM E s l with | some r=>some (s.get t::r) | none=>none
 | .cell a T::l=>match nM E s l,s.get a with
  | some r,.lf (.p b off)=>match look s.ob b with
   | some (.box _ c)=>match E.cell T with
    | some (ag,n)=>(match aD1 ag n (c.drop off)with | some y=>some (y::r) | none=>none)
    | none=>none
   | _=>none
  | _,_=>none
def yV (D:FnD) (r:List Slot):List Slot:=if D.opt=true then .lf (.v .bool false)::r else r
def hV1 (D:FnD):List Slot→Bool
 | [.lf .np]=>D.opt&&D.res.T.nilB D.res.T.nilD
 | _=>false
def zW1 :Shs→Bool
 | .cons (.val .bool) (.cons _ .nil)=>true
 | _=>false
noncomputable def fin (E:Env) (D:FnD) (s:St):Option (D.res.T.app D.par.inout.T).D:=
 match nM E s D.rv with
 | none=>none
 | some r=>if hV1 D r=true then(match D.par.inout.takeA s.ob (D.par.refP 0)with
  | some (y,b)=>if(nodupB (b++dedup [] (rowNames (D.par.inout.valsA s.ob (D.par.refP 0))))&&iT1 D b)=true then some (Tys.join _ _ D.res.T.nilD y)else none
  | none=>none)else
  match D.res.takeA s.ob (yV D r),D.par.inout.takeA s.ob (D.par.refP 0)with
  | some (x,a),some (y,b)=>if(nodupB (a++b++dedup [] (rowNames (D.res.valsA s.ob (yV D r)++D.par.inout.valsA s.ob (D.par.refP 0))))&&(!D.opt||zW1 D.res)&&iT1 D b)=true then some (Tys.join _ _ x y)else none
  | _,_=>none
noncomputable def run (E:Env) (ev:Ev E) (m:Nat) {R:Type}:Nat→(Nat→St→Option R)→(St→Option R)→List It→St→Option R
 | 0,_,_,_,_=>none
 | _+1,_,fi,[],s=>fi s
 | n+1,go,fi,.endB _::l,s=>run E ev m n go fi l s
 | n+1,go,fi,.c x a::l,s=>match a with
  | .at_ i k _=>match qB1 s m k with | some s'=>go i s' | none=>none
  | a=>match x with
   | .skip=>run E ev m n go fi l s
   | .seq x y=>run E ev m n go fi (.c x a.l :: .c y a.r::l) s
   | .region _ ops draw=>if draw=true then jG1 E ev ops s fun s'=>run E ev m n go fi l s'
    else opsK E ev (fun f xs s K=>match look E.inl f with
     | some I=>match I.body with
      | some b=>run E ev m n (fun _ _=>none) (fun s'=>K (s'.get I.rv) s'.ob) [.c b .no] ⟨xs++List.replicate (I.n-xs.length) (.lf .u),s.ob,s.b+12*s.sl.length⟩
      | none=>none
     | none=>none) ops ops.toList s fun s'=>run E ev m n go fi l s'
   | .cond c x y=>match s.opnd c with
    | some (.lf (.v .bool b))=>match c with
     | .tmp t=>bif b then run E ev m n go fi (.c x a.l::l) (s.set t (.lf (.v .bool true)))else run E ev m n go fi (.c y a.r::l) (s.set t (.lf (.v .bool false)))
     | _=>bif b then run E ev m n go fi (.c x a.l::l) s else run E ev m n go fi (.c y a.r::l) s
    | _=>none
   | .block id x=>run E ev m n go fi (.c x a.l :: .endB id::l) s
   | .exit id=>match vW id l with | some l'=>run E ev m n go fi l' s | none=>none
   | .ret=>fi s
   | _=>none
def places :Code→Ann→List It→List (Nat×List It)
 | x,.at_ i k b,l=>match x with
  | .loop y=>(i,.c y b :: .c (.loop y) (.at_ i k b)::l)::places y b (.c (.loop y) (.at_ i k b)::l)
  | .seq y z=>(i,.c (.seq y z) b::l)::(places y b.l (.c z b.r::l)++places z b.r l)
  | .cond c y z=>(i,.c (.cond c y z) b::l)::(places y b.l l++places z b.r l)
  | .block id y=>(i,.c (.block id y) b::l)::places y b.l (.endB id::l)
  | x=>[(i,.c x b::l)]
 | .seq x y,a,l=>places x a.l (.c y a.r::l)++places y a.r l
 | .cond _ x y,a,l=>places x a.l l++places y a.r l
 | .block id x,a,l=>places x a.l (.endB id::l)
 | _,_,_=>[]
def gU (D:FnD) (x:D.par.T.D):St:=
 match D.par.mkA (upto D.par.cnt) x with
 | some (c,ob,_)=>⟨c.map gS++List.replicate (D.n-c.length) (.lf .un),ob,1000⟩
 | none=>⟨[],[],1000⟩
def FnD.code (D:FnD) (i:Nat):List It:=
 match D.body with
 | some b=>if Nat.beq i 0=true then [.c b D.an]else match look (places b D.an []) i with | some l=>l | none=>[]
 | none=>[]
noncomputable def body (E:Env) (ev:Ev E) (go:(f:Nat)→Nat→St→Option (E.resT f).D) (f:Nat) (i:Nat) (s:St):Option (E.resT f).D:=
 match h:look E.fn f with
 | none=>none
 | some D=>run E ev D.par.cnt 100000 (go f) (fun s=>cast (by rw[Env.resT,h]) (fin E D s)) (D.code i) s
structure Frm (M:Nat→Prop) (w w':World):Prop where
 os:w'.os=w.os
 tape:w'.tape=w.tape
 output:w'.output=w.output
 size:w.heap.size≤w'.heap.size
 block:∀k,k<w.heap.size → ¬M k→w'.heap[k]?=w.heap[k]?
theorem Frm.refl (M:Nat→Prop) (w:World):Frm M w w:=⟨rfl,rfl,rfl,rE2 _,fun _ _ _=>rfl⟩
theorem Frm.trans {M M':Nat→Prop} {w w1 w2:World} (h:Frm M w w1) (h':Frm M' w1 w2) (hM:∀k,k<w.heap.size→M' k→M k):Frm M w w2:=
 ⟨h'.os.trans h.os,h'.tape.trans h.tape,h'.output.trans h.output,sG2 h.size h'.size,fun k hk hm=>
  (h'.block k (uF2 hk h.size) (fun hx=>hm (hM k hk hx))).trans (h.block k hk hm)⟩
theorem Frm.mono {M M':Nat→Prop} {w w':World} (h:Frm M w w') (hM:∀k,k<w.heap.size→M k→M' k):Frm M' w w':=
 ⟨h.os,h.tape,h.output,h.size,fun k hk hm=>h.block k hk (fun hx=>hm (hM k hk hx))⟩
theorem Frm.of_grown {w w':World} {row:Option Nat} (h:w.grownBy w' row):Frm (fun k=>row=some k) w w':=
 ⟨h.os,h.tape,h.output,h.size,fun k hk hm=>h.block k hk (fun e=>hm e.symm)⟩
theorem Frm.alloc (w:World) (o:Obj):Frm (fun _=>False) w (w.alloc o):=⟨rfl,rfl,rfl,by simp,fun k hk _=>heap_alloc_old w o hk⟩
theorem Frm.setRow (w:World) (g:Nat) (cs:Array Value):Frm (fun k=>k=g) w (w.setRow g cs):=
 ⟨rfl,rfl,rfl,by simp,fun k _ hk=>setRow_other w g k cs hk⟩
def RepL {α:Type} (R:α→List Value→Prop):List α→List Value→Prop
 | [],cs=>cs=[]
 | x::xs,cs=>∃a b,cs=a++b∧R x a∧RepL R xs b
mutual
def Ty.Rep (w:World) (Z:Nat→Prop):(t:Ty)→t.D→List Value→Prop
 | .int k,x,cs=>cs=[.int k x]
 | .bool,x,cs=>cs=[.bool x]
 | .str,x,cs=>cs=[.string x]
 | .err,x,cs=>∃v,cs=[v]∧((x=true∧v = .nilIface)∨(x=false ∧ ∃T u,v = .iface T u))
 | .st fs,x,cs=>fs.Rep w Z x cs
 | .row _ t,xs,cs=>∃A cap news,cs=[.slice A (xs:List t.D).length cap]∧(xs:List t.D).length≤cap∧RepL (t.Rep w Z) (xs:List t.D) news ∧
   ((xs=([]:List t.D)∧(A=none→cap=0)) ∨ ∃ad,A=some ad∧Z ad.block ∧ ∀j u,news[j]?=some u→w.cell? (ad.add j)=some u)
 | .any T t,x,cs=>∃v l,cs=[.iface T v]∧(if t.isSt=true then v = .agg l.toArray else l=[v])∧t.Rep w Z x l
def Tys.Rep (w:World) (Z:Nat→Prop):(ts:Tys)→ts.D→List Value→Prop
 | .nil,_,cs=>cs=[]
 | .cons t ts,x,cs=>∃a b,cs=a++b∧t.Rep w Z x.1 a∧ts.Rep w Z x.2 b
end
section
variable {w w' : World} {Z Z' : Nat → Prop}
theorem RepL.imp {α:Type} {R R':α→List Value→Prop} (h:∀x cs,R x cs→R' x cs):∀{xs:List α} {cs:List Value},RepL R xs cs→RepL R' xs cs
 | [],_,hr=>hr
 | _::_,_,⟨a,b,e,h1,h2⟩=>⟨a,b,e,h _ _ h1,RepL.imp h h2⟩
theorem RepL.length {α:Type} {R:α→List Value→Prop} {n:Nat} (h:∀x cs,R x cs→cs.length=n):∀{xs:List α} {cs:List Value},RepL R xs cs→cs.length=xs.length*n
 | [],_,hr=>by cases hr;simp
 | _::_,_,⟨a,b,e,h1,h2⟩=>by subst e;rw[jE2,h _ _ h1,RepL.length h h2,iF2,nG2,Nat.add_comm]
theorem RepL.append {α:Type} {R:α→List Value→Prop}:∀{xs ys:List α} {cs ds:List Value},RepL R xs cs→RepL R ys ds→RepL R (xs++ys) (cs++ds)
 | [],_,_,_,h,h'=>by cases h;simpa using h'
 | _::_,_,_,_,⟨a,b,e,h1,h2⟩,h'=>by subst e;exact⟨a,_,by rw[uE2],h1,RepL.append h2 h'⟩
theorem RepL.all {α:Type} {R:α→List Value→Prop} {Q:Value→Prop} (h:∀x cs,R x cs → ∀v∈cs,Q v):∀{xs:List α} {cs:List Value},RepL R xs cs → ∀v∈cs,Q v
 | [],_,hr=>by cases hr;simp
 | _::_,_,⟨a,b,e,h1,h2⟩=>by
  subst e;intro v hv;rcases xE2.1 hv with hv | hv
  ·exact h _ _ h1 v hv
  ·exact RepL.all h h2 v hv
theorem RepL.getElem {α:Type} {R:α→List Value→Prop} {n:Nat} (h:∀x cs,R x cs→cs.length=n):∀{xs:List α} {cs:List Value},RepL R xs cs → ∀(i:Nat) (x:α),xs[i]?=some x →
  ∃a,R x a ∧ ∀j u,a[j]?=some u→cs[i*n+j]?=some u
 | [],_,_,i,x,hx=>by simp at hx
 | y::ys,_,⟨a,b,e,h1,h2⟩,i,x,hx=>by
  subst e;have hl:=h _ _ h1
  cases i with
  | zero=>
   simp at hx;subst hx;refine⟨a,h1,fun j u hu=>?_⟩;have hj:j<a.length:=(sF2.1 hu).1;rw[Nat.zero_mul,xG2,tF2 hj];exact hu
  | succ i=>
   simp at hx;obtain⟨c,hc,hcs⟩:=RepL.getElem h h2 i x hx;refine⟨c,hc,fun j u hu=>?_⟩;rw[yF2 (by rw[nG2];omega),hl,show(i+1)*n+j-n=i*n+j by rw[nG2];omega];exact hcs j u hu
theorem RepL.take {α:Type} {R:α→List Value→Prop} {n:Nat} (h:∀x cs,R x cs→cs.length=n):∀{xs:List α} {cs:List Value},RepL R xs cs → ∀k,RepL R (xs.take k) (cs.take (k*n))
 | [],_,hr,k=>by cases hr;simp[RepL]
 | y::ys,_,⟨a,b,e,h1,h2⟩,k=>by
  subst e;have hl:=h _ _ h1
  cases k with
  | zero=>simp[RepL]
  | succ k=>
   refine⟨a,b.take (k*n),?_,h1,RepL.take h h2 k⟩;rw[List.take_append,cF2 (by rw[hl,nG2];omega),hl,show(k+1)*n-n=k*n by rw[nG2];omega]
theorem RepL.drop {α:Type} {R:α→List Value→Prop} {n:Nat} (h:∀x cs,R x cs→cs.length=n):∀{xs:List α} {cs:List Value},RepL R xs cs → ∀k,RepL R (xs.drop k) (cs.drop (k*n))
 | [],_,hr,k=>by cases hr;simp[RepL]
 | y::ys,_,⟨a,b,e,h1,h2⟩,k=>by
  subst e;have hl:=h _ _ h1
  cases k with
  | zero=>rw[Nat.zero_mul,yE2,yE2];exact⟨a,b,rfl,h1,h2⟩
  | succ k=>
   rw[List.drop_succ_cons,List.drop_append (l₁:=a),yG2 (l:=a) (by rw[hl,nG2];omega),hl,show(k+1)*n-n=k*n by rw[nG2];omega];exact RepL.drop h h2 k
theorem RepL.set {α:Type} {R:α→List Value→Prop} {n:Nat} (h:∀x cs,R x cs→cs.length=n):∀{xs:List α} {cs:List Value},RepL R xs cs → ∀(i:Nat) (x:α) (a:List Value),i<xs.length→R x a →
  RepL R (xs.set i x) (cs.take (i*n)++a++cs.drop (i*n+n))
 | [],_,_,i,x,a,hi,_=>by simp at hi
 | y::ys,_,⟨b,c,e,h1,h2⟩,i,x,a,hi,hx=>by
  subst e;have hl:=h _ _ h1
  cases i with
  | zero=>
   refine⟨a,c,?_,hx,h2⟩;rw[Nat.zero_mul,List.take_zero,dF2,xG2,List.drop_append,yG2 (by omega),hl];simp
  | succ i=>
   have ih:=RepL.set h h2 i x a (by simpa using hi) hx;refine⟨b,_,?_,h1,ih⟩
   rw[List.take_append,cF2 (by rw[hl,nG2];omega),hl,List.drop_append,yG2 (by rw[hl,nG2];omega),hl,
    show(i+1)*n-n=i*n by rw[nG2];omega,show(i+1)*n+n-n=i*n+n by rw[nG2];omega]
   simp[uE2]
theorem RepL.replicate {α:Type} {R:α→List Value→Prop} (x:α) (a:List Value) (h:R x a):∀n,RepL R (List.replicate n x) (List.replicate n a).flatten
 | 0=>by simp[RepL]
 | n+1=>⟨a,(List.replicate n a).flatten,by simp[List.replicate_succ],h,RepL.replicate x a h n⟩
mutual
theorem Ty.Rep.length :∀{t:Ty} {x:t.D} {cs:List Value},t.Rep w Z x cs→cs.length=t.sz
 | .int _,_,_,h | .bool,_,_,h | .str,_,_,h=>by simp only[Ty.Rep]at h;subst h;rfl
 | .err,_,_,h=>by obtain⟨v,e,_⟩:=h;subst e;rfl
 | .st fs,_,_,h=>Tys.Rep.length (ts:=fs) h
 | .row _ t,_,_,h=>by obtain⟨A,cap,news,e,_⟩:=h;subst e;rfl
 | .any _ t,_,_,h=>by obtain⟨v,l,e,_⟩:=h;subst e;rfl
theorem Tys.Rep.length :∀{ts:Tys} {x:ts.D} {cs:List Value},ts.Rep w Z x cs→cs.length=ts.sz
 | .nil,_,_,h=>by simp only[Tys.Rep]at h;subst h;rfl
 | .cons t ts,_,_,h=>by obtain⟨a,b,e,h1,h2⟩:=h;subst e;rw[jE2,Ty.Rep.length h1,Tys.Rep.length h2];rfl
end
mutual
theorem Ty.Rep.one :∀{t:Ty} {x:t.D} {cs:List Value},t.Rep w Z x cs → ∀v∈cs,v.oneCell'=true
 | .int _,_,_,h | .bool,_,_,h | .str,_,_,h=>by simp only[Ty.Rep]at h;subst h;simp[Value.oneCell']
 | .err,_,_,h=>by obtain⟨v,e,h⟩:=h;subst e;rcases h with⟨_,h⟩ | ⟨_,T,u,h⟩ <;> subst h <;> simp[Value.oneCell']
 | .st fs,_,_,h=>Tys.Rep.one (ts:=fs) h
 | .row _ t,_,_,h=>by obtain⟨A,cap,news,e,_⟩:=h;subst e;simp[Value.oneCell']
 | .any _ t,_,_,h=>by obtain⟨v,l,e,_⟩:=h;subst e;simp[Value.oneCell']
theorem Tys.Rep.one :∀{ts:Tys} {x:ts.D} {cs:List Value},ts.Rep w Z x cs → ∀v∈cs,v.oneCell'=true
 | .nil,_,_,h=>by simp only[Tys.Rep]at h;subst h;simp
 | .cons t ts,_,_,h=>by
  obtain⟨a,b,e,h1,h2⟩:=h;subst e;intro v hv;rcases xE2.1 hv with hv | hv
  ·exact Ty.Rep.one h1 v hv
  ·exact Tys.Rep.one h2 v hv
end
def Stay (w w':World) (Z Z':Nat→Prop):Prop:=∀k,Z k→Z' k ∧ ∀a:Addr,a.block=k→w'.cell? a=w.cell? a
theorem Stay.of_block (h:∀k,Z k→Z' k∧w'.heap[k]?=w.heap[k]?):Stay w w' Z Z':=fun k hk=>⟨(h k hk).1,fun a ha=>World.cell?_of_block (by rw[ha];exact(h k hk).2)⟩
theorem Stay.refl (w:World) (Z:Nat→Prop):Stay w w Z Z:=fun _ h=>⟨h,fun _ _=>rfl⟩
theorem Stay.more (w:World) (h:∀k,Z k→Z' k):Stay w w Z Z':=fun k hk=>⟨h k hk,fun _ _=>rfl⟩
@[simp] theorem wC1 (a:Addr) (n:Nat):(a.add n).block=a.block:=by unfold Addr.add;split <;> rfl
mutual
theorem Ty.Rep.stay (hs:Stay w w' Z Z'):∀{t:Ty} {x:t.D} {cs:List Value},t.Rep w Z x cs→t.Rep w' Z' x cs
 | .int _,_,_,h | .bool,_,_,h | .str,_,_,h=>h
 | .err,_,_,h=>h
 | .st fs,_,_,h=>Tys.Rep.stay hs (ts:=fs) h
 | .row _ t,xs,_,h=>by
  obtain⟨A,cap,news,e,hc,hl,h⟩:=h;refine⟨A,cap,news,e,hc,RepL.imp (fun _ _ h=>Ty.Rep.stay hs h) hl,?_⟩;rcases h with h | ⟨ad,ha,hz,h⟩
  ·exact .inl h
  ·exact .inr ⟨ad,ha,(hs _ hz).1,fun j u hu=>((hs _ hz).2 _ (by simp)).trans (h j u hu)⟩
 | .any T t,x,_,h=>by obtain⟨v,l,e,h1,h2⟩:=h;exact⟨v,l,e,h1,Ty.Rep.stay hs h2⟩
theorem Tys.Rep.stay (hs:Stay w w' Z Z'):∀{ts:Tys} {x:ts.D} {cs:List Value},ts.Rep w Z x cs→ts.Rep w' Z' x cs
 | .nil,_,_,h=>h
 | .cons _ _,_,_,⟨a,b,e,h1,h2⟩=>⟨a,b,e,Ty.Rep.stay hs h1,Tys.Rep.stay hs h2⟩
end
def blkV :Value→Option Nat
 | .slice (some a) _ _=>some a.block
 | .pointer (some a)=>some a.block
 | _=>none
def Wv (f:Nat) (ps:List Value):Value:=if Nat.blt f ifB=true then .func (.func f) #[] ps.toArray else match ps with | [p]=>.iface (f-ifB) p | _=>.nilIface
def okW (f:Nat) (ps:List Value):Prop:=Nat.blt f ifB=true ∨ ∃p,ps=[p]
def aY1 :Value→List Value
 | .func _ _ ps=>ps.toList
 | .iface _ p=>[p]
 | _=>[]
theorem fB1 {f:Nat} {ps:List Value} (h:okW f ps):aY1 (Wv f ps)=ps:=by
 unfold Wv;split
 ·rfl
 ·rename_i hf;rcases h with h | ⟨p,rfl⟩
  ·exact absurd h hf
  ·rfl
theorem tF1 {f:Nat} (h:Nat.blt f ifB=true) (ps:List Value):Wv f ps = .func (.func f) #[] ps.toArray:=by unfold Wv;rw[if_pos h]
theorem eB2 (T:Nat) (p:Value):Wv (ifB+T) [p] = .iface T p:=by
 have:¬Nat.blt (ifB+T) ifB=true:=fun h=>by have:=rF2 h;omega
 unfold Wv;rw[if_neg this];show Value.iface (ifB+T-ifB) p=_;rw[Nat.add_sub_cancel_left]
variable (w Z) in
def LfOK (γ:Nat→Value):Lf→Value→Prop
 | .u,_=>True
 | .un,v=>v=undef
 | .v t x,v=>t.Rep w Z x [v]
 | .nl,v=>v = .slice none 0 0
 | .o r,v=>v=γ r ∧ ∃A n c,γ r = .slice A n c
 | .oh r h,v=>∃A n c,γ r = .slice A n c∧v = .slice A h.toNat c∧0≤h∧h.toNat≤n
 | .ot r l z,v=>∃A n c,γ r = .slice A n c∧v = .slice (if c=l.toNat then A else A.map (·.add (l.toNat*z))) (n-l.toNat) (c-l.toNat)∧0≤l∧l.toNat≤n
 | .p b off,v=>∃g,γ b = .pointer (some ⟨g,0,none⟩)∧v = .pointer (some ⟨g,off,none⟩)
 | .np,v=>v = .pointer none
 | .ni,v=>v = .nilIface
 | .fn f cs,v=>v=Wv f (cs.map γ)∧okW f (cs.map γ) ∧ ∀b∈cs,∃g,γ b = .pointer (some ⟨g,0,none⟩)
def All2 {α β:Type} (R:α→β→Prop):List α→List β→Prop
 | [],[]=>True
 | a::l,b::m=>R a b∧All2 R l m
 | _,_=>False
variable (w Z) in
def SlotOK (γ:Nat→Value) (ob:List (Nat×Ob)):Slot→Value→Prop
 | .lf c,v=>LfOK w Z γ c v
 | .ag l,v=>∃cs,v = .agg cs∧All2 (LfOK w Z γ) l cs.toList
 | .tp l,v=>∃vs,v = .tuple vs∧All2 (fun x v=>if x.1=true then ∃cs,v = .agg cs∧All2 (LfOK w Z γ) x.2 cs.toList else ∃c,x.2=[c]∧LfOK w Z γ c v) l vs.toList
 | .q l,v=>∃ad vs,v = .pointer (some ad)∧Z ad.block∧All2 (LfOK w Z γ) l vs ∧ ∀j u,vs[j]?=some u→w.cell? (ad.add j)=some u
 | .e r i off,v=>∀E t xs,look ob r=some (.row E t xs)→0≤i∧i.toNat<xs.length ∧ ∃g n c,γ r = .slice (some ⟨g,0,none⟩) n c∧v = .pointer (some ⟨g,i.toNat*t.sz+off,none⟩)
variable (w Z) in
def ObOK (γ:Nat→Value) (n:Nat):Ob→Prop
 | .row E t xs=>∃cs,w.ownsRow 0 E t.sz (γ n) xs.length cs∧RepL (t.Rep w Z) xs cs
 | .box T l=>∃g cur,γ n = .pointer (some ⟨g,0,none⟩)∧w.heap[g]?=some (.cells cur T (0,0))∧All2 (LfOK w Z γ) l cur.toList
structure Inv (w0:World) (M Z0:Nat→Prop) (w:World) (Z:Nat→Prop) (γ:Nat→Value) (ob:List (Nat×Ob)):Prop where
 frm:Frm M w0 w
 zlt:∀b,Z b→b<w.heap.size
 zold:∀b,Z b→b<w0.heap.size→Z0 b∨M b
 obs:∀n o,look ob n=some o→ObOK w Z γ n o
 disj:∀n m o o' b,look ob n=some o→look ob m=some o'→blkV (γ n)=some b→blkV (γ m)=some b→n=m
 own:∀n o b,look ob n=some o→blkV (γ n)=some b → ¬Z b∧(b<w0.heap.size→M b)
variable (w Z) in
structure SlotsOK (γ:Nat→Value) (ob:List (Nat×Ob)) (sl:List Slot) (tm:Array Value):Prop where
 len:sl.length≤tm.size
 ok:∀i,SlotOK w Z γ ob (sl.getD i (.lf .u)) (tm.getD i undef)
end
theorem beqt {a b:Nat}:(Nat.beq a b=true)↔a=b:=by rw[Nat.beq_eq]
theorem zF {α:Type} (l:List (Nat×α)) (n:Nat) (a:α) (m:Nat):look (put l n a) m=if n=m then some a else look l m:=by
 induction l with
 | nil=>simp only[put,look,beqt]
 | cons x l ih=>
  obtain⟨k,b⟩:=x;simp only[put,beqt];by_cases hk:k=n
  ·subst hk;simp only[ite_true,look,beqt];by_cases h:k=m <;> simp[h]
  ·simp only[hk,if_false,look,ih,beqt];by_cases h:k=m
   ·subst h;simp[Ne.symm hk]
   ·simp[h]
theorem bI {α:Type} (l:List (Nat×α)) (n m:Nat):look (del l n) m=if n=m then none else look l m:=by
 induction l with
 | nil=>simp[del,look]
 | cons x l ih=>
  obtain⟨k,b⟩:=x;simp only[del,beqt];by_cases hk:k=n
  ·subst hk;simp only[ite_true,ih,look,beqt];by_cases h:k=m <;> simp[h]
  ·simp only[hk,if_false,look,ih,beqt];by_cases h:k=m
   ·subst h;simp[Ne.symm hk]
   ·simp[h]
theorem oI1 {α β:Type} (f:α→β) (l:List (Nat×α)) (m:Nat):look (l.map fun x=>(x.1,f x.2)) m=(look l m).map f:=by
 induction l with
 | nil=>rfl
 | cons x l ih=>
  obtain⟨k,b⟩:=x;simp only[qF2,look,ih];split <;> rfl
theorem lK {α:Type} {l:List (Nat×α)} {n:Nat} {a:α} (h:look l n=some a):(n,a)∈l:=by
 induction l with
 | nil=>cases h
 | cons x l ih=>
  obtain⟨k,b⟩:=x;simp only[look,beqt]at h;split at h
  ·rename_i hk;cases h;subst hk;exact nE2
  ·exact mE2 _ (ih h)
section
variable {w w' : World} {Z Z' : Nat → Prop} {γ γ' : Nat → Value}
theorem All2.length {α β:Type} {R:α→β→Prop}:∀{l:List α} {m:List β},All2 R l m→l.length=m.length
 | [],[],_=>rfl
 | _::_,_::_,h=>by simp[All2.length h.2]
 | [],_::_,h=>h.elim
 | _::_,[],h=>h.elim
theorem All2.imp {α β:Type} {R R':α→β→Prop}:∀{l:List α} {m:List β},(∀a∈l,∀b,R a b→R' a b)→All2 R l m→All2 R' l m
 | [],[],_,_=>trivial
 | a::_,b::_,h,h2=>⟨h a nE2 b h2.1,All2.imp (fun a ha=>h a (mE2 _ ha)) h2.2⟩
 | [],_::_,_,h=>h.elim
 | _::_,[],_,h=>h.elim
theorem All2.map {α α' β:Type} {R:α→β→Prop} {R':α'→β→Prop} (f:α→α'):∀{l:List α} {m:List β},(∀a∈l,∀b,R a b→R' (f a) b)→All2 R l m→All2 R' (l.map f) m
 | [],[],_,_=>trivial
 | a::_,b::_,h,h2=>⟨h a nE2 b h2.1,All2.map f (fun a ha=>h a (mE2 _ ha)) h2.2⟩
 | [],_::_,_,h=>h.elim
 | _::_,[],_,h=>h.elim
theorem All2.append {α β:Type} {R:α→β→Prop}:∀{l l':List α} {m m':List β},All2 R l m→All2 R l' m'→All2 R (l++l') (m++m')
 | [],_,[],_,_,h=>h
 | _::_,_,_::_,_,h,h'=>⟨h.1,All2.append h.2 h'⟩
 | [],_,_::_,_,h,_=>h.elim
 | _::_,_,[],_,h,_=>h.elim
theorem All2.take {α β:Type} {R:α→β→Prop}:∀{l:List α} {m:List β} (n:Nat),All2 R l m→All2 R (l.take n) (m.take n)
 | _,_,0,_=>by simp[All2]
 | [],[],_+1,_=>by simp[All2]
 | _::_,_::_,n+1,h=>⟨h.1,All2.take n h.2⟩
 | [],_::_,_,h=>h.elim
 | _::_,[],_,h=>h.elim
theorem All2.drop {α β:Type} {R:α→β→Prop}:∀{l:List α} {m:List β} (n:Nat),All2 R l m→All2 R (l.drop n) (m.drop n)
 | _,_,0,h=>by simpa using h
 | [],[],_+1,_=>by simp[All2]
 | _::_,_::_,n+1,h=>All2.drop n h.2
 | [],_::_,_,h=>h.elim
 | _::_,[],_,h=>h.elim
theorem All2.get {α β:Type} {R:α→β→Prop}:∀{l:List α} {m:List β} (i:Nat) (a:α) (b:β),All2 R l m→l[i]?=some a→m[i]?=some b→R a b
 | _::_,_::_,0,_,_,h,h1,h2=>by simp at h1 h2;subst h1 h2;exact h.1
 | _::_,_::_,i+1,a,b,h,h1,h2=>All2.get i a b h.2 (by simpa using h1) (by simpa using h2)
 | [],_,_,_,_,_,h1,_=>by simp at h1
 | _::_,[],_,_,_,h,_,_=>h.elim
theorem All2.split {α β:Type} {R:α→β→Prop}:∀{l l':List α} {m:List β},All2 R (l++l') m → ∃a b,m=a++b∧All2 R l a∧All2 R l' b
 | [],_,m,h=>⟨[],m,rfl,trivial,h⟩
 | _::_,_,b::m,h=>by obtain⟨x,y,e,h1,h2⟩:=All2.split h.2;subst e;exact⟨b::x,y,rfl,⟨h.1,h1⟩,h2⟩
 | _::_,_,[],h=>h.elim
mutual
theorem yL (γ:Nat→Value):∀{t:Ty} {x:t.D} {cs:List Value},t.Rep w Z x cs→All2 (LfOK w Z γ) (t.leaves x) cs
 | .int k,x,_,h | .bool,x,_,h | .str,x,_,h=>by simp only[Ty.Rep]at h;subst h;exact⟨rfl,trivial⟩
 | .err,_,_,h=>by obtain⟨v,e,h⟩:=h;subst e;exact⟨⟨v,rfl,h⟩,trivial⟩
 | .st fs,_,_,h=>sY γ (ts:=fs) h
 | .row _ t,xs,_,h=>by obtain⟨A,cap,news,e,h⟩:=h;subst e;exact⟨⟨A,cap,news,rfl,h⟩,trivial⟩
 | .any _ t,xs,_,h=>by obtain⟨v,l,e,h⟩:=h;subst e;exact⟨⟨v,l,rfl,h⟩,trivial⟩
theorem sY (γ:Nat→Value):∀{ts:Tys} {x:ts.D} {cs:List Value},ts.Rep w Z x cs→All2 (LfOK w Z γ) (ts.leaves x) cs
 | .nil,_,_,h=>by simp only[Tys.Rep]at h;subst h;trivial
 | .cons _ _,_,_,⟨a,b,e,h1,h2⟩=>by subst e;exact All2.append (yL γ h1) (sY γ h2)
end
theorem sV1 {E:TypeId} {t:Ty}:(Ty.row E t).Rep w Z ([]:List t.D) [.slice none 0 0]:=⟨none,0,[],rfl,rE2 _,rfl,.inl ⟨rfl,fun _=>rfl⟩⟩
theorem wF1 {t:Ty} {c:Lf} {x:t.D} {v:Value} (h:c.as t=some x) (hc:LfOK w Z γ c v):t.Rep w Z x [v]:=by
 cases c with
 | v t' y=>
  obtain⟨e,hx⟩:=aK h;subst e;subst hx;exact hc
 | nl=>
  cases t with
  | row E t=>simp only[Lf.as]at h;cases h;simp only[LfOK]at hc;subst hc;exact sV1
  | _=>cases h
 | ni=>
  cases t with
  | err=>simp only[Lf.as]at h;cases h;exact⟨v,rfl,.inl ⟨rfl,hc⟩⟩
  | _=>cases h
 | fn f cs=>
  cases t with
  | err=>
   simp only[Lf.as]at h;split at h
   ·rename_i hf;cases h;obtain⟨h1,h2,_⟩:=hc;refine⟨v,rfl,.inr ⟨rfl,?_⟩⟩;have hn:¬Nat.blt f ifB=true:=fun hb=>by have:=rF2 hb;have:=rF2 hf;omega
    rcases h2 with h2 | ⟨p,h2⟩
    ·exact absurd h2 hn
    ·rw[h2]at h1;unfold Wv at h1;rw[if_neg hn]at h1;exact⟨_,_,h1⟩
   ·cases h
  | _=>cases h
 | _=>cases h
mutual
theorem eP :∀{t:Ty} {l:List Lf} {x:t.D} {r:List Lf} {vs:List Value},t.pack l=some (x,r)→All2 (LfOK w Z γ) l vs → ∃a b,vs=a++b∧t.Rep w Z x a∧All2 (LfOK w Z γ) r b
 | .st fs,_,_,_,_,h,hl=>kI1 (ts:=fs) h hl
 | .int k,l,x,r,vs,h,hl=>by
  cases l with
  | nil=>simp[Ty.pack]at h
  | cons c l=>
   simp only[Ty.pack]at h;split at h
   ·rename_i y hy;cases h
    cases vs with
    | nil=>exact hl.elim
    | cons v vs=>exact⟨[v],vs,rfl,wF1 hy hl.1,hl.2⟩
   ·cases h
 | .bool,l,x,r,vs,h,hl=>by
  cases l with
  | nil=>simp[Ty.pack]at h
  | cons c l=>
   simp only[Ty.pack]at h;split at h
   ·rename_i y hy;cases h
    cases vs with
    | nil=>exact hl.elim
    | cons v vs=>exact⟨[v],vs,rfl,wF1 hy hl.1,hl.2⟩
   ·cases h
 | .str,l,x,r,vs,h,hl=>by
  cases l with
  | nil=>simp[Ty.pack]at h
  | cons c l=>
   simp only[Ty.pack]at h;split at h
   ·rename_i y hy;cases h
    cases vs with
    | nil=>exact hl.elim
    | cons v vs=>exact⟨[v],vs,rfl,wF1 hy hl.1,hl.2⟩
   ·cases h
 | .err,l,x,r,vs,h,hl=>by
  cases l with
  | nil=>simp[Ty.pack]at h
  | cons c l=>
   simp only[Ty.pack]at h;split at h
   ·rename_i y hy;cases h
    cases vs with
    | nil=>exact hl.elim
    | cons v vs=>exact⟨[v],vs,rfl,wF1 hy hl.1,hl.2⟩
   ·cases h
 | .row E t,l,x,r,vs,h,hl=>by
  cases l with
  | nil=>simp[Ty.pack]at h
  | cons c l=>
   simp only[Ty.pack]at h;split at h
   ·rename_i y hy;cases h
    cases vs with
    | nil=>exact hl.elim
    | cons v vs=>exact⟨[v],vs,rfl,wF1 hy hl.1,hl.2⟩
   ·cases h
 | .any E t,l,x,r,vs,h,hl=>by
  cases l with
  | nil=>simp[Ty.pack]at h
  | cons c l=>
   simp only[Ty.pack]at h;split at h
   ·rename_i y hy;cases h
    cases vs with
    | nil=>exact hl.elim
    | cons v vs=>exact⟨[v],vs,rfl,wF1 hy hl.1,hl.2⟩
   ·cases h
theorem kI1 :∀{ts:Tys} {l:List Lf} {x:ts.D} {r:List Lf} {vs:List Value},ts.pack l=some (x,r)→All2 (LfOK w Z γ) l vs → ∃a b,vs=a++b∧ts.Rep w Z x a∧All2 (LfOK w Z γ) r b
 | .nil,l,x,r,vs,h,hl=>by simp only[Tys.pack]at h;cases h;exact⟨[],vs,rfl,rfl,hl⟩
 | .cons t ts,l,x,r,vs,h,hl=>by
  simp only[Tys.pack]at h;split at h
  ·rename_i y r1 h1;split at h
   ·rename_i z r2 h2;cases h;obtain⟨a,b,e,ha,hb⟩:=eP h1 hl;obtain⟨c,d,e2,hc,hd⟩:=kI1 h2 hb;subst e e2;exact⟨a++c,d,by rw[uE2],⟨a,c,rfl,ha,hc⟩,hd⟩
   ·cases h
  ·cases h
end
theorem LfOK.keep (hs:Stay w w' Z Z') {c:Lf} {v:Value} (h:LfOK w Z γ c v) (hn:∀n,c.names n=true→γ' n=γ n):LfOK w' Z' γ' c v:=by
 cases c with
 | u=>trivial
 | un=>exact h
 | v t x=>exact Ty.Rep.stay hs h
 | nl=>exact h
 | o r=>simpa only[LfOK,hn r (beqt.2 rfl)]using h
 | oh r k=>simpa only[LfOK,hn r (beqt.2 rfl)]using h
 | ot r l z=>simpa only[LfOK,hn r (beqt.2 rfl)]using h
 | p b off=>simpa only[LfOK,hn b (beqt.2 rfl)]using h
 | np=>exact h
 | ni=>exact h
 | fn f cs=>
  have he:∀b∈cs,γ' b=γ b:=fun b hb=>hn b (by simp only[Lf.names,rH2];exact⟨b,hb,beqt.2 rfl⟩)
  have hm:cs.map γ'=cs.map γ:=oH2 he;exact⟨by rw[hm];exact h.1,by rw[hm];exact h.2.1,fun b hb=>by rw[he b hb];exact h.2.2 b hb⟩
theorem LfsOK.keep (hs:Stay w w' Z Z') {l:List Lf} {vs:List Value} (h:All2 (LfOK w Z γ) l vs) (hn:∀n,l.any (Lf.names n)=true→γ' n=γ n):All2 (LfOK w' Z' γ') l vs:=
 All2.imp (fun c hc _ h=>LfOK.keep hs h fun n hx=>hn n (rH2.2 ⟨c,hc,hx⟩)) h
theorem SlotOK.keep (hs:Stay w w' Z Z') {ob ob':List (Nat×Ob)} {x:Slot} {v:Value} (h:SlotOK w Z γ ob x v)
  (hn:∀n,x.names n=true→γ' n=γ n ∧ ∀E t xs,look ob' n=some (.row E t xs) → ∃E' ys,look ob n=some (.row E' t ys)∧ys.length=xs.length):SlotOK w' Z' γ' ob' x v:=by
 cases x with
 | lf c=>exact LfOK.keep hs h fun n hx=>(hn n hx).1
 | ag l=>obtain⟨cs,e,h⟩:=h;exact⟨cs,e,LfsOK.keep hs h fun n hx=>(hn n hx).1⟩
 | tp l=>
  obtain⟨vs,e,h⟩:=h;refine⟨vs,e,All2.imp (fun y hy v h=>?_) h⟩;have hk:∀n,y.2.any (Lf.names n)=true→γ' n=γ n:=fun n hx=>(hn n (rH2.2 ⟨y,hy,hx⟩)).1
  split at h
  ·rename_i hb;rw[if_pos hb];obtain⟨cs,e,h⟩:=h;exact⟨cs,e,LfsOK.keep hs h hk⟩
  ·rename_i hb;rw[if_neg hb];obtain⟨c,e,h⟩:=h;exact⟨c,e,LfOK.keep hs h fun n hx=>hk n (by rw[e];simpa using hx)⟩
 | q l=>
  obtain⟨ad,vs,e,hz,h,hc⟩:=h;exact⟨ad,vs,e,(hs _ hz).1,LfsOK.keep hs h fun n hx=>(hn n (by simpa[Slot.names]using hx)).1,fun j u hu=>((hs _ hz).2 _ (by simp)).trans (hc j u hu)⟩
 | e r i off=>
  intro E t xs hx;obtain⟨h1,h2⟩:=hn r (beqt.2 rfl);obtain⟨E',ys,hy,hl⟩:=h2 E t xs hx;rw[h1,←hl];exact h E' t ys hy
end
def vz :Ty→Value→Bool
 | .int k,.int k' n=>kbeq k k'&&(match n with | .ofNat 0=>true | _=>false)
 | .bool,.bool b=> !b
 | .str,.string s=>Nat.beq s.data.toList.length 0
 | .err,.nilIface=>true
 | .row _ _,.slice none l c=>Nat.beq l 0&&Nat.beq c 0
 | _,_=>false
def zc1 (t:Ty):List Value→Option (List Value)
 | []=>none
 | v::r=>if vz t v=true then some r else none
mutual
def zchk :Ty→List Value→Option (List Value)
 | .st fs,l=>kP1 fs l
 | .int k,l=>zc1 (.int k) l
 | .bool,l=>zc1 .bool l
 | .str,l=>zc1 .str l
 | .err,l=>zc1 .err l
 | .row E t,l=>zc1 (.row E t) l
 | .any _ _,_=>none
def kP1 :Tys→List Value→Option (List Value)
 | .nil,l=>some l
 | .cons t ts,l=>match zchk t l with | some r=>kP1 ts r | none=>none
end
def rP (i:TypeInfo) (t:Ty):Bool:=
 Nat.beq i.size t.sz&&Nat.ble i.bytes 8192&&(match i.zero with
  | some z=>(match zchk t z.cells.toList with | some r=>isNil r | none=>false)&&(match z,t.isSt with | .agg _,b=>b | _,b=> !b)
  | none=>false)
mutual
def tyOK (P:Program):Ty→TypeId→Bool
 | .int k,T=>(match P.info? T with | some i=>rP i (.int k) | none=>false)&&(match P.underlying T with | some (.int k')=>kbeq k k' | _=>false)
 | .bool,T=>(match P.info? T with | some i=>rP i .bool | none=>false)&&(match P.underlying T with | some .bool=>true | _=>false)
 | .str,T=>(match P.info? T with | some i=>rP i .str | none=>false)&&(match P.underlying T with | some .string=>true | _=>false)
 | .err,T=>(match P.info? T with | some i=>rP i .err | none=>false)&&(match P.underlying T with | some (.interface _)=>true | _=>false)
 | .st fs,T=>(match P.info? T with | some i=>rP i (.st fs) | none=>false)&&(match P.underlying T with | some (.struct l)=>oJ P fs l.toList 0 | _=>false)
 | .row E t,T=>(match P.info? T with | some i=>rP i (.row E t) | none=>false)&&(match P.underlying T with | some (.slice E')=>Nat.beq E E'&&Nat.blt 0 t.sz&&tyOK P t E | _=>false)
 | .any _ _,_=>false
def oJ (P:Program):Tys→List Field→Nat→Bool
 | .nil,[],_=>true
 | .cons t ts,f::l,n=>Nat.beq f.offset n&&tyOK P t f.type&&oJ P ts l (n+t.sz)
 | _,_,_=>false
end
def sF1 (P:Program) (T:TypeId) (b:Bool):Bool:=
 (match P.info? T with | some i=>Nat.beq i.size 1&&(match i.zero with | some z=>Nat.beq z.cells.size 1 | none=>false) | none=>false) &&
 (match P.underlying T with | some (.struct _)=>false | some (.array _ _)=>false | some (.pointer _)=>true | some _=> !b | none=>false)
mutual
def eqT (P:Program):Ty→TypeId→Bool
 | .int _,_=>true
 | .bool,_=>true
 | .str,_=>true
 | .err,_=>false
 | .st fs,T=> !P.stoodInHeld T&&(match P.underlying T with | some (.struct l)=>eqFs P fs l.toList | _=>false)
 | .row _ _,_=>false
 | .any _ _,_=>false
def eqFs (P:Program):Tys→List Field→Bool
 | .nil,[]=>true
 | .cons t ts,f::l=>f.name != "_" && eqT P t f.type&&eqFs P ts l
 | _,_=>false
end
def eqOK (P:Program) (E:Env) (T:TypeId):Bool:=match E.t T with
 | some t=>eqT P t T&&Nat.ble t.ht 9000 && !(P.eqGuardType P.depth T)
 | none=>false
def jH1 (P:Program) (x:TypeId×String×FuncId×Option TypeId):Bool:=Nat.blt 0 P.types.size&&(match P.info? x.1,P.underlying x.1 with
 | some i,some (.pointer e)=>(match i.methods.find? (·.name==x.2.1)with
  | some m=>m.path.isEmpty&&(match m.func with
   | some (f,ptr)=>Nat.beq f x.2.2.1&&(match x.2.2.2 with | none=>ptr | some U=> !ptr&&Nat.beq U e)
   | none=>false)
  | none=>false)
 | _,_=>false)
def kF (P:Program) (E:Env):Bool:=(E.ty.all fun x=>tyOK P x.2 x.1)&&(E.one.all fun x=>sF1 P x.1 x.2)&&(E.eqs.all fun T=>eqOK P E T)&&E.meths.all (jH1 P)
section
variable {P : Program} {w : World} {Z : Nat → Prop} {γ : Nat → Value}
theorem fE1 {t:Ty} (hv:∀v,vz t v=true→t.Rep w Z t.z [v]∧All2 (LfOK w Z γ) t.zl [v]) {l r:List Value} (h:zc1 t l=some r):
  ∃a,l=a++r∧t.Rep w Z t.z a∧All2 (LfOK w Z γ) t.zl a:=by
 cases l with
 | nil=>cases h
 | cons v l=>
  simp only[zc1]at h;split at h
  ·cases h;rename_i hz;exact⟨[v],rfl,hv v hz⟩
  ·cases h
theorem cQ1 (γ:Nat→Value) (t:Ty) (ht:t.isSt=false) (v:Value) (h:vz t v=true):t.Rep w Z t.z [v]∧All2 (LfOK w Z γ) t.zl [v]:=by
 cases t with
 | int k=>
  cases v <;> simp only[vz]at h <;> try cases h
  rename_i k' n;simp only[iE2]at h;obtain⟨h1,h2⟩:=h;have:=hA1 h1;subst this;split at h2
  ·exact⟨rfl,rfl,trivial⟩
  ·cases h2
 | bool=>
  cases v <;> simp only[vz]at h <;> try cases h
  rename_i b;cases b
  ·exact⟨rfl,rfl,trivial⟩
  ·cases h
 | str=>
  cases v <;> simp only[vz]at h <;> try cases h
  rename_i s;have:s=ByteArray.empty:=by
   have h0:=beqt.1 h;have h1:s.data = #[]:=by have:=aF2 h0;rw[←dG2 (xs:=s.data),this]
   cases s;cases h1;rfl
  subst this;exact⟨rfl,rfl,trivial⟩
 | err=>
  cases v <;> simp only[vz]at h <;> try cases h
  exact⟨⟨_,rfl,.inl ⟨rfl,rfl⟩⟩,rfl,trivial⟩
 | any T t=>cases v <;> cases h
 | st fs=>cases ht
 | row E t=>
  cases v <;> simp only[vz]at h <;> try cases h
  rename_i A l c
  cases A with
  | some a=>simp at h
  | none=>
   simp only[iE2,beqt]at h;obtain⟨h1,h2⟩:=h;subst h1 h2;exact⟨sV1,rfl,trivial⟩
mutual
theorem yO1 (γ:Nat→Value):∀{t:Ty} {l r:List Value},zchk t l=some r → ∃a,l=a++r∧t.Rep w Z t.z a∧All2 (LfOK w Z γ) t.zl a
 | .st fs,_,_,h=>iJ1 γ (ts:=fs) h
 | .int k,_,_,h=>fE1 (fun v=>cQ1 γ (.int k) rfl v) h
 | .bool,_,_,h=>fE1 (fun v=>cQ1 γ .bool rfl v) h
 | .str,_,_,h=>fE1 (fun v=>cQ1 γ .str rfl v) h
 | .err,_,_,h=>fE1 (fun v=>cQ1 γ .err rfl v) h
 | .row E t,_,_,h=>fE1 (fun v=>cQ1 γ (.row E t) rfl v) h
 | .any _ _,_,_,h=>by cases h
theorem iJ1 (γ:Nat→Value):∀{ts:Tys} {l r:List Value},kP1 ts l=some r → ∃a,l=a++r∧ts.Rep w Z ts.z a∧All2 (LfOK w Z γ) ts.zl a
 | .nil,l,r,h=>by simp only[kP1]at h;cases h;exact⟨[],rfl,rfl,trivial⟩
 | .cons t ts,l,r,h=>by
  simp only[kP1]at h;split at h
  ·rename_i r1 h1;obtain⟨a,e,h2,h3⟩:=yO1 γ h1;obtain⟨b,e2,h4,h5⟩:=iJ1 γ h;subst e e2;exact⟨a++b,by rw[uE2],⟨a,b,rfl,h2,h4⟩,All2.append h3 h5⟩
  ·cases h
end
theorem aF (γ:Nat→Value) {i:TypeInfo} {t:Ty} (h:rP i t=true):
  i.size=t.sz∧i.bytes≤8192 ∧ ∃z,i.zero=some z∧t.Rep w Z t.z z.cells.toList∧All2 (LfOK w Z γ) t.zl z.cells.toList∧z.cells.size=t.sz:=by
 unfold rP at h;simp only[iE2,beqt]at h;obtain⟨⟨h1,h2⟩,h3⟩:=h;refine⟨h1,rF2 h2,?_⟩;split at h3
 ·rename_i z hz;simp only[iE2]at h3;obtain⟨h3,_⟩:=h3;split at h3
  ·rename_i r hr
   cases r with
   | cons _ _=>cases h3
   | nil=>
    obtain⟨a,e,h4,h5⟩:=yO1 (w:=w) (Z:=Z) γ hr;rw[zE2]at e;refine⟨z,hz,e ▸ h4,e ▸ h5,?_⟩;have:=Ty.Rep.length h4;rw[←e,wE2]at this;exact this
  ·cases h3
 ·cases h3
theorem aG {t:Ty} {T:TypeId} (h:tyOK P t T=true):∃i,P.info? T=some i∧rP i t=true:=by cases t <;> simp only[tyOK,iE2]at h <;> obtain⟨h,_⟩:=h <;> split at h <;> first | (rename_i i hi;exact⟨i,hi,h⟩) | cases h
theorem bJ {k:IntKind} {T:TypeId} (h:tyOK P (.int k) T=true):P.underlying T=some (.int k):=by
 simp only[tyOK,iE2]at h;obtain⟨_,h⟩:=h;split at h
 ·rename_i k' hk;rw[hk,hA1 h]
 ·cases h
theorem dK {T:TypeId} (h:tyOK P .bool T=true):P.underlying T=some .bool:=by
 simp only[tyOK,iE2]at h;obtain⟨_,h⟩:=h;split at h
 ·assumption
 ·cases h
theorem nK {T:TypeId} (h:tyOK P .str T=true):P.underlying T=some .string:=by
 simp only[tyOK,iE2]at h;obtain⟨_,h⟩:=h;split at h
 ·assumption
 ·cases h
theorem dT {T:TypeId} (h:tyOK P .err T=true):∃ms,P.underlying T=some (.interface ms):=by
 simp only[tyOK,iE2]at h;obtain⟨_,h⟩:=h;split at h
 ·rename_i ms hm;exact⟨ms,hm⟩
 ·cases h
theorem wM {fs:Tys} {T:TypeId} (h:tyOK P (.st fs) T=true):∃l,P.underlying T=some (.struct l)∧oJ P fs l.toList 0=true:=by
 simp only[tyOK,iE2]at h;obtain⟨_,h⟩:=h;split at h
 ·rename_i l hm;exact⟨l,hm,h⟩
 ·cases h
theorem gF {E:TypeId} {t:Ty} {T:TypeId} (h:tyOK P (.row E t) T=true):P.underlying T=some (.slice E)∧0<t.sz∧tyOK P t E=true:=by
 simp only[tyOK,iE2]at h;obtain⟨_,h⟩:=h;split at h
 ·rename_i E' hm;simp only[iE2,beqt]at h;obtain⟨⟨h1,h2⟩,h3⟩:=h;exact⟨by rw[hm,h1],rF2 h2,h3⟩
 ·cases h
theorem fJ1 {α:Type} {l:List (Nat×α)} {f:Nat×α→Bool} (h:l.all f=true) {n:Nat} {a:α} (hl:look l n=some a):f (n,a)=true:=pG2.1 h _ (lK hl)
theorem uE {E:Env} (h:kF P E=true) {T:TypeId} {t:Ty} (ht:E.t T=some t):tyOK P t T=true:=by simp only[kF,iE2]at h;exact fJ1 h.1.1.1 ht
theorem jN {E:Env} (h:kF P E=true) {T:TypeId} {b:Bool} (ht:look E.one T=some b):sF1 P T b=true:=by simp only[kF,iE2]at h;exact fJ1 h.1.1.2 ht
theorem aT1 {E:Env} (h:kF P E=true) {T:TypeId} (hT:E.eqs.any (Nat.beq T)=true):eqOK P E T=true:=by simp only[kF,iE2]at h;obtain⟨y,hy,he⟩:=rH2.1 hT;have:=beqt.1 he;subst this;exact pG2.1 h.1.2 _ hy
theorem gX {E:Env} (h:kF P E=true) {x:TypeId×String×FuncId×Option TypeId} (hx:x∈E.meths):jH1 P x=true:=by simp only[kF,iE2]at h;exact pG2.1 h.2 _ hx
theorem fQ {E:Env} {T e:TypeId} {t:Ty} (h:E.rowT T=some (e,t)):E.t T=some (.row e t):=by
 unfold Env.rowT at h;split at h
 ·rename_i e' t' ht;cases h;exact ht
 ·cases h
theorem uK {T:TypeId} {d:TypeDesc} (h:P.underlying T=some d):(isAgg T).run P w = .ok (match d with | .struct _ | .array _ _=>true | _=>false) w:=by unfold isAgg;simp only[Sem.run_bind,run_underlying h,Result.andThen_ok];cases d <;> rfl
structure CellTy (P:Program) (T:TypeId) (ag:Bool) (n:Nat):Prop where
 info:∃i,P.info? T=some i∧i.size=n
 agg:∀w,(isAgg T).run P w = .ok ag w
 one:ag=false→n=1
theorem vN {t:Ty} {T:TypeId} (h:tyOK P t T=true):CellTy P T t.isSt t.sz:=by
 obtain⟨i,hi,hz⟩:=aG h;refine⟨⟨i,hi,(aF (w:=default) (Z:=fun _=>False) (fun _=>undef) hz).1⟩,fun w=>?_,fun hs=>by cases t <;> first | rfl | cases hs⟩
 cases t with
 | int k=>rw[uK (bJ h)];rfl
 | bool=>rw[uK (dK h)];rfl
 | str=>rw[uK (nK h)];rfl
 | err=>obtain⟨ms,h⟩:=dT h;rw[uK h];rfl
 | st fs=>obtain⟨l,h,_⟩:=wM h;rw[uK h];rfl
 | row E t=>rw[uK (gF h).1];rfl
 | any T t=>cases h
theorem jY {T:TypeId} {b:Bool} (h:sF1 P T b=true):CellTy P T false 1 ∧ ∃i z,P.info? T=some i∧i.zero=some z∧z.cells.size=1:=by
 simp only[sF1,iE2]at h;obtain⟨h1,h2⟩:=h;split at h1
 ·rename_i i hi;simp only[iE2,beqt]at h1;obtain⟨h1,h3⟩:=h1;refine⟨⟨⟨i,hi,h1⟩,fun w=>?_,fun _=>rfl⟩,?_⟩
  ·cases hd:P.underlying T with
   | none=>simp[hd]at h2
   | some d=>rw[uK hd];cases d <;> first | rfl | (simp[hd]at h2)
  ·split at h3
   ·rename_i z hz;exact⟨i,z,hi,hz,beqt.1 h3⟩
   ·cases h3
 ·cases h1
theorem rE1 {T:TypeId} (h:sF1 P T true=true):P.underlying T=some (.pointer (P.pointee T)):=by
 simp only[sF1,iE2]at h;obtain⟨_,h2⟩:=h;unfold Program.pointee
 cases hd:P.underlying T with
 | none=>simp[hd]at h2
 | some d=>cases d <;> first | rfl | (simp[hd]at h2)
theorem wZ {E:Env} (h:kF P E=true) {T:TypeId} {ag:Bool} {n:Nat} (hc:E.cell T=some (ag,n)):CellTy P T ag n:=by
 unfold Env.cell at hc;split at hc
 ·rename_i t ht;cases hc;exact vN (uE h ht)
 ·split at hc
  ·rename_i b hb;cases hc;exact(jY (jN h hb)).1
  ·cases hc
def gI (ag:Bool) (cs:List Value):Value:=if ag=true then .agg cs.toArray else cs.getD 0 undef
theorem dP {T:TypeId} {ag:Bool} {n:Nat} (h:CellTy P T ag n) (a:Addr) (cs:List Value) (hl:cs.length=n) (hc:∀j u,cs[j]?=some u→w.cell? (a.add j)=some u):
  (loadVar T a).run P w = .ok (gI ag cs) w:=by
 obtain⟨i,hi,hn⟩:=h.info;have hlc:=run_loadCells_list (P:=P) w a cs hc;unfold loadVar gI;simp only[Sem.run_bind,h.agg,Result.andThen_ok]
 cases ag with
 | true=>simp[sizeOf,typeInfo,hi,hn,←hl,hlc]
 | false=>
  have h1:=h.one rfl;have h0:cs[0]?=some (cs.getD 0 undef):=by
   cases cs with
   | nil=>simp at hl;omega
   | cons c cs=>rfl
  have:=hc 0 _ h0;simp only[Addr.add,if_true]at this;simp[this]
theorem mC1 {T:TypeId} {ag:Bool} {n:Nat} (h:CellTy P T ag n) (g o:Nat) (ty:TypeId) (cur:Array Value) (v:Value) (hg:w.heap[g]?=some (.cells cur ty (0,0)))
  (hv:v.cells.size=n) (hfit:o+n≤cur.size) (h1:∀u∈v.cells.toList,u.oneCell'=true):
  (storeVar T ⟨g,o,none⟩ v).run P w = .ok () (w.setRow g (cur.toList.take o++v.cells.toList++cur.toList.drop (o+n)).toArray):=by
 obtain⟨i,hi,hn⟩:=h.info;have hst:=run_storeCells_at P g o ty v.cells.toList 0 cur w hg (by simpa[hv]using hfit) h1;simp only[Nat.add_zero,wE2,hv]at hst;unfold storeVar;simp[sizeOf,typeInfo,hi,hn,hv,hst]
theorem LfOK.one {c:Lf} {v:Value} (h:LfOK w Z γ c v) (hk:c.known=true):v.oneCell'=true:=by
 cases c with
 | u=>cases hk
 | un=>cases hk
 | v t x=>exact Ty.Rep.one h v nE2
 | nl=>cases h;rfl
 | o r=>obtain⟨e,A,n,c,e2⟩:=h;rw[e,e2];rfl
 | oh r k=>obtain⟨A,n,c,e,e2,_⟩:=h;rw[e2];rfl
 | ot r l z=>obtain⟨A,n,c,e,e2,_⟩:=h;rw[e2];rfl
 | p b off=>obtain⟨g,_,e⟩:=h;rw[e];rfl
 | np=>cases h;rfl
 | ni=>cases h;rfl
 | fn f cs=>
  obtain⟨h1,h2,_⟩:=h;rw[h1];unfold Wv;split
  ·rfl
  ·rename_i hf;rcases h2 with h2 | ⟨p,h2⟩
   ·exact absurd h2 hf
   ·rw[h2];rfl
theorem nL {ob:List (Nat×Ob)} {x:Slot} {v:Value} {l:List Lf} (h:SlotOK w Z γ ob x v) (hc:x.cells=some l):
  All2 (LfOK w Z γ) l v.cells.toList ∧ ∀u∈v.cells.toList,u.oneCell'=true:=by
 cases x with
 | lf c=>
  simp only[Slot.cells]at hc;split at hc
  ·rename_i hk;cases hc;have h1:=LfOK.one h hk;have:v.cells.toList=[v]:=by cases v <;> first | rfl | cases h1
   rw[this];exact⟨⟨h,trivial⟩,by simpa using h1⟩
  ·cases hc
 | ag m=>
  simp only[Slot.cells]at hc;split at hc
  ·rename_i hk;cases hc;obtain⟨cs,e,h⟩:=h;subst e;refine⟨h,fun u hu=>?_⟩;obtain⟨i,hi⟩:=List.getElem?_of_mem hu;have hlt:i<l.length:=by rw[All2.length h];exact(sF2.1 hi).1
   exact LfOK.one (All2.get i l[i] u h (sE2 hlt) hi) (pG2.1 hk _ (List.getElem_mem hlt))
  ·cases hc
 | _=>cases hc
end
end Go.GV
