/-
GV: a value semantics for the translated code, in which slices are lists: the words. (This session's own text.)
A function of the program is run on a small state of its own: its temporaries hold values (numbers, bools, strings, lists, records), or name rows and variables that
the call owns. Every choice of form is made by the program's text alone; only contents are data.
-/
import Derived.WalkKit
import Derived.Laws.AppendOwn
set_option linter.unusedVariables false
set_option linter.unusedSimpArgs false
namespace Go.GV

/-! ### Kinds of values -/
mutual
inductive Ty where
  | int (k : IntKind) | bool | str | err
  | st (fs : Tys)
  | row (E : TypeId) (t : Ty)
  | any (T : TypeId) (t : Ty)            -- an interface value of this dynamic type
inductive Tys where
  | nil
  | cons (t : Ty) (ts : Tys)
end

mutual
def Ty.D : Ty → Type
  | .int _ => Int
  | .bool => Bool
  | .str => ByteArray
  | .err => Bool
  | .st fs => fs.D
  | .row _ t => List t.D
  | .any _ t => t.D
def Tys.D : Tys → Type
  | .nil => Unit
  | .cons t ts => t.D × ts.D
end

mutual
def Ty.sz : Ty → Nat
  | .st fs => fs.sz
  | .int _ => 1
  | .bool => 1
  | .str => 1
  | .err => 1
  | .row _ _ => 1
  | .any _ _ => 1
def Tys.sz : Tys → Nat
  | .nil => 0
  | .cons t ts => t.sz + ts.sz
end

mutual
def Ty.z : (t : Ty) → t.D
  | .int _ => (0 : Int)
  | .bool => false
  | .str => ByteArray.empty
  | .err => true
  | .st fs => fs.z
  | .row _ _ => []
  | .any _ t => t.z
def Tys.z : (ts : Tys) → ts.D
  | .nil => ()
  | .cons t ts => (t.z, ts.z)
end

/-! ### Two records are alike -/
abbrev eqI (x y : Int) : Bool := decide (x = y)
abbrev eqB (x y : Bool) : Bool := x == y
abbrev eqS (x y : ByteArray) : Bool := x.toList == y.toList
mutual
def Ty.eqD : (t : Ty) → t.D → t.D → Bool
  | .int _, x, y => eqI x y
  | .bool, x, y => eqB x y
  | .str, x, y => eqS x y
  | .err, _, _ => false
  | .st fs, x, y => fs.eqD x y
  | .row _ _, _, _ => false
  | .any _ _, _, _ => false
def Tys.eqD : (ts : Tys) → ts.D → ts.D → Bool
  | .nil, _, _ => true
  | .cons t ts, x, y => t.eqD x.1 y.1 && ts.eqD x.2 y.2
end
mutual
def Ty.ht : Ty → Nat
  | .st fs => fs.ht + 1
  | .int _ => 1
  | .bool => 1
  | .str => 1
  | .err => 1
  | .row _ _ => 1
  | .any _ _ => 1
def Tys.ht : Tys → Nat
  | .nil => 1
  | .cons t ts => max t.ht ts.ht
end
def kbeq : IntKind → IntKind → Bool
  | .i8, .i8 => true | .i16, .i16 => true | .i32, .i32 => true | .i64, .i64 => true
  | .u8, .u8 => true | .u16, .u16 => true | .u32, .u32 => true | .u64, .u64 => true
  | _, _ => false
theorem kbeq_eq {a b : IntKind} (h : kbeq a b = true) : a = b := by cases a <;> cases b <;> first | rfl | cases h

mutual
def Ty.beq : Ty → Ty → Bool
  | .int a, .int b => kbeq a b
  | .bool, .bool => true
  | .str, .str => true
  | .err, .err => true
  | .st a, .st b => a.beq b
  | .row E a, .row F b => Nat.beq E F && a.beq b
  | .any E a, .any F b => Nat.beq E F && a.beq b
  | _, _ => false
def Tys.beq : Tys → Tys → Bool
  | .nil, .nil => true
  | .cons a x, .cons b y => a.beq b && x.beq y
  | _, _ => false
end
mutual
theorem Ty.beq_eq : ∀ {a b : Ty}, a.beq b = true → a = b
  | .int a, .int b, h => congrArg Ty.int (kbeq_eq (by simpa [Ty.beq] using h))
  | .bool, .bool, _ => rfl
  | .str, .str, _ => rfl
  | .err, .err, _ => rfl
  | .st a, .st b, h => congrArg Ty.st (Tys.beq_eq (a := a) (b := b) (by simpa [Ty.beq] using h))
  | .row E a, .row F b, h => by
    simp only [Ty.beq, Bool.and_eq_true] at h
    have h1 := Nat.eq_of_beq_eq_true h.1
    have h2 := Ty.beq_eq h.2
    subst h1 h2
    rfl
  | .any E a, .any F b, h => by
    simp only [Ty.beq, Bool.and_eq_true] at h
    have h1 := Nat.eq_of_beq_eq_true h.1
    have h2 := Ty.beq_eq h.2
    subst h1 h2
    rfl
  | .any _ _, .int _, h | .any _ _, .bool, h | .any _ _, .str, h | .any _ _, .err, h | .any _ _, .st _, h | .any _ _, .row _ _, h
  | .int _, .any _ _, h | .bool, .any _ _, h | .str, .any _ _, h | .err, .any _ _, h | .st _, .any _ _, h | .row _ _, .any _ _, h
  | .int _, .bool, h | .int _, .str, h | .int _, .err, h | .int _, .st _, h | .int _, .row _ _, h
  | .bool, .int _, h | .bool, .str, h | .bool, .err, h | .bool, .st _, h | .bool, .row _ _, h
  | .str, .int _, h | .str, .bool, h | .str, .err, h | .str, .st _, h | .str, .row _ _, h
  | .err, .int _, h | .err, .bool, h | .err, .str, h | .err, .st _, h | .err, .row _ _, h
  | .st _, .int _, h | .st _, .bool, h | .st _, .str, h | .st _, .err, h | .st _, .row _ _, h
  | .row _ _, .int _, h | .row _ _, .bool, h | .row _ _, .str, h | .row _ _, .err, h | .row _ _, .st _, h => by simp [Ty.beq] at h
theorem Tys.beq_eq : ∀ {a b : Tys}, a.beq b = true → a = b
  | .nil, .nil, _ => rfl
  | .cons a x, .cons b y, h => by
    simp only [Tys.beq, Bool.and_eq_true] at h
    have h1 := Ty.beq_eq h.1
    have h2 := Tys.beq_eq h.2
    subst h1 h2
    rfl
  | .nil, .cons _ _, h | .cons _ _, .nil, h => by simp [Tys.beq] at h
end
/-- A value of kind a, as one of kind b, if these are one. -/
def cast? (a b : Ty) (x : a.D) : Option b.D := if h : a.beq b = true then some (Ty.beq_eq h ▸ x) else none
theorem cast?_some {a b : Ty} {x : a.D} {y : b.D} (h : cast? a b x = some y) : ∃ e : a = b, y = e ▸ x := by
  unfold cast? at h
  split at h
  · rename_i hb
    exact ⟨Ty.beq_eq hb, (Option.some.inj h).symm⟩
  · cases h

/-! ### What a temporary, or a cell, holds -/
/-- Numbers from here on are no functions': an interface value of the dynamic type that lies so far above, over an address. -/
def ifB : Nat := 1000000000
inductive Lf where
  | u                                   -- nothing is known
  | un                                  -- what was never written
  | v (t : Ty) (x : t.D)                -- a value of one cell; what it leads to is never written again
  | nl                                  -- the nil slice
  | o (r : Nat)                         -- the slice that is row r, whole
  | oh (r : Nat) (h : Int)              -- its first h elements
  | ot (r : Nat) (l : Int) (z : Nat)    -- it from l on; so many cells an element has
  | p (b off : Nat)                     -- the address of a cell of variable b
  | np                                  -- a nil pointer
  | ni                                  -- a nil interface
  | fn (f : FuncId) (cs : List Nat)     -- a function value; what it has captured: variables (from ifB on: an interface value over a variable's address)
inductive Slot where
  | lf (c : Lf)
  | ag (l : List Lf)                    -- a record, by its cells
  | tp (l : List (Bool × List Lf))      -- several results: is it a record, its cells
  | q (l : List Lf)                     -- the address of cells that are never written again, and what they hold
  | e (r : Nat) (i : Int) (off : Nat)   -- the address of a cell of element i of row r
inductive Ob where
  | row (E : TypeId) (t : Ty) (xs : List t.D)
  | box (T : TypeId) (l : List Lf)
structure St where
  sl : List Slot
  ob : List (Nat × Ob)
  b : Nat                               -- names from here on are given to what is made

/-! ### A value by its cells -/
mutual
def Ty.leaves : (t : Ty) → t.D → List Lf
  | .int k, x => [.v (.int k) x]
  | .bool, x => [.v .bool x]
  | .str, x => [.v .str x]
  | .err, x => [.v .err x]
  | .st fs, x => fs.leaves x
  | .row E t, x => [.v (.row E t) x]
  | .any T t, x => [.v (.any T t) x]
def Tys.leaves : (ts : Tys) → ts.D → List Lf
  | .nil, _ => []
  | .cons t ts, x => t.leaves x.1 ++ ts.leaves x.2
end
/-- One cell as a value of a kind of one cell. -/
def Lf.as (t : Ty) : Lf → Option t.D
  | .v t' x => cast? t' t x
  | .nl => match t with | .row _ _ => some [] | _ => none
  | .ni => match t with | .err => some true | _ => none
  | .fn f _ => match t with | .err => if Nat.ble ifB f = true then some false else none | _ => none
  | _ => none
mutual
/-- The first cells as a value; the rest. -/
def Ty.pack : (t : Ty) → List Lf → Option (t.D × List Lf)
  | .st fs, l => fs.pack l
  | .int k, l => match l with | [] => none | c :: r => (match c.as (.int k) with | some x => some (x, r) | none => none)
  | .bool, l => match l with | [] => none | c :: r => (match c.as .bool with | some x => some (x, r) | none => none)
  | .str, l => match l with | [] => none | c :: r => (match c.as .str with | some x => some (x, r) | none => none)
  | .err, l => match l with | [] => none | c :: r => (match c.as .err with | some x => some (x, r) | none => none)
  | .row E t, l => match l with | [] => none | c :: r => (match c.as (.row E t) with | some x => some (x, r) | none => none)
  | .any T t, l => match l with | [] => none | c :: r => (match c.as (.any T t) with | some x => some (x, r) | none => none)
def Tys.pack : (ts : Tys) → List Lf → Option (ts.D × List Lf)
  | .nil, l => some ((), l)
  | .cons t ts, l => match t.pack l with
    | some (x, r) => match ts.pack r with
      | some (y, s) => some ((x, y), s)
      | none => none
    | none => none
end
def Tys.off : Tys → Nat → Nat
  | .nil, _ => 0
  | .cons _ _, 0 => 0
  | .cons t ts, n + 1 => t.sz + ts.off n
def Tys.get : Tys → Nat → Option Ty
  | .nil, _ => none
  | .cons t _, 0 => some t
  | .cons _ ts, n + 1 => ts.get n
def Ty.isSt : Ty → Bool
  | .st _ => true
  | _ => false
end Go.GV
